/- Plain: the literals of a row, with blanks and a comma between them, are read back as the row. No program in sight. Contracts: world.Place, (*world.Numbers).Next, world.Instants, world.Value: some valid value. -/
import Derived.Test.YtajcddaahmbllaaDoorConS
import Derived.Test.YtajcddaahmbllaaDoorRt
import Derived.Lib.Join
import Derived.Lib.Repeat
import Derived.Test.YtajcddaahmbllaaDoorConF
import Derived.Test.YtajcddaahmbllaaDoorBaseA
import Derived.Deep.RegionHeld3
import Derived.Laws.Rows
set_option linter.unusedVariables false
set_option linter.unusedSimpArgs false
namespace Go.Proofs.YtajcddaahmbllaaDoor
open Go.RowKit
/-- What the splitter makes of a text that stands at some place. -/
def splitA (l : Bytes) (i : Nat) : Except (Nat × Int) (List Tok) := splitGo l.length l i
theorem splitA_nil (i : Nat) : splitA [] i = .ok [⟨0, [], 0, i⟩] := rfl
theorem splitA_blank {c : UInt8} (r : Bytes) (i : Nat) (h : blankB c = true) : splitA (c :: r) i = splitA r (i + 1) := by
  unfold splitA; rw [List.length_cons, splitGo_cons, if_pos h]
theorem splitA_tok {c : UInt8} {r : Bytes} {i n : Nat} {t : Tok} {ts : List Tok} (hb : blackB c) (h : oneS (c :: r) = .ok (t, n)) (hn : 1 ≤ n) (hs : splitA ((c :: r).drop n) (i + n) = .ok ts) :
    splitA (c :: r) i = .ok ({ t with off := i } :: ts) := by
  unfold splitA
  rw [List.length_cons, splitGo_cons, if_neg (by rw [hb.1]; simp), if_neg hb.2, h]
  show (match splitGo r.length ((c :: r).drop n) (i + n) with | .error e => _ | .ok ts => _) = _
  rw [splitGo_fuel _ _ _ (by rw [List.length_drop, List.length_cons]; omega)]
  unfold splitA at hs
  rw [hs]
theorem splitA_one {t : Tok} {rest : Bytes} {i : Nat} {ts : List Tok} (h : t.ok = true) (hk : t.kind ≠ 0) (hr : Stop rest) (hs : splitA rest (i + t.written.length) = .ok ts) :
    splitA (t.written ++ rest) i = .ok (⟨t.kind, t.text, t.num, i⟩ :: ts) := by
  obtain ⟨ho, c, r, hw, hb⟩ := one_back h hk hr
  rw [hw] at ho hs ⊢
  rw [List.cons_append] at ho ⊢
  refine splitA_tok (t := ⟨t.kind, t.text, t.num, 0⟩) hb ho (Nat.succ_pos _) ?_
  rw [← List.cons_append, List.drop_left]; exact hs
theorem splitA_minus {rest : Bytes} {i : Nat} {ts : List Tok} (hs : splitA rest (i + 1) = .ok ts) : splitA (45 :: rest) i = .ok (⟨5, [45], 0, i⟩ :: ts) := by
  have h : oneS (45 :: rest) = .ok (⟨5, [45], 0, 0⟩, 1) := by
    rw [oneS_cons, if_neg (by decide), if_neg (by decide), if_neg (by decide), if_neg (by decide)]
    unfold symS
    rw [show symbolsS.find? (fun x => x.isPrefixOf (45 :: rest)) = some [45] by simp [symbolsS, List.find?, List.isPrefixOf]]
    rfl
  exact splitA_tok (t := ⟨5, [45], 0, 0⟩) ⟨by decide, by decide⟩ h (Nat.le_refl _) hs
theorem splitA_comma {rest : Bytes} {i : Nat} {ts : List Tok} (hs : splitA rest (i + 1) = .ok ts) : splitA (44 :: rest) i = .ok (⟨5, [44], 0, i⟩ :: ts) := by
  have h : oneS (44 :: rest) = .ok (⟨5, [44], 0, 0⟩, 1) := by
    rw [oneS_cons, if_neg (by decide), if_neg (by decide), if_neg (by decide), if_neg (by decide)]
    unfold symS
    rw [show symbolsS.find? (fun x => x.isPrefixOf (44 :: rest)) = some [44] by simp [symbolsS, List.find?, List.isPrefixOf]]
    rfl
  exact splitA_tok (t := ⟨5, [44], 0, 0⟩) ⟨by decide, by decide⟩ h (Nat.le_refl _) hs
theorem splitA_blanks (r : Bytes) : ∀ (p i : Nat), splitA (List.replicate p 32 ++ r) i = splitA r (i + p)
  | 0, i => rfl
  | p + 1, i => by
    rw [List.replicate_succ, List.cons_append, splitA_blank _ _ (by decide), splitA_blanks r p (i + 1)]
    congr 1; omega
def LitBack (v : Vl) (l rest : Bytes) (i : Nat) (P : List Tok → Prop) : Prop :=
  ∃ zs ts, splitA (l ++ rest) i = .ok (zs ++ ts) ∧ P ts ∧ litL (zs ++ ts) = some (v, zs.length) ∧ ∃ t r, zs = t :: r ∧ t.kind ≠ 0
theorem lit_one {t : Tok} {v : Vl} {rest : Bytes} {P : List Tok → Prop} (h : t.ok = true) (hk : t.kind ≠ 0) (hr : Stop rest) (hl : ∀ j r, litL (⟨t.kind, t.text, t.num, j⟩ :: r) = some (v, 1))
    (hs : ∀ j, ∃ ts, splitA rest j = .ok ts ∧ P ts) (i : Nat) : LitBack v t.written rest i P := by
  obtain ⟨ts, h1, h2⟩ := hs (i + t.written.length)
  exact ⟨[⟨t.kind, t.text, t.num, i⟩], ts, splitA_one h hk hr h1, h2, hl i ts, _, [], rfl, hk⟩
theorem lit_back {v : Vl} (h : validV v.kind v.num v.text = true) {rest : Bytes} (hr : Stop rest) {P : List Tok → Prop} (hs : ∀ j, ∃ ts, splitA rest j = .ok ts ∧ P ts) (i : Nat) :
    LitBack v (litV v.kind v.num v.text) rest i P := by
  obtain ⟨k, n, x⟩ := v
  have h' : validV k n x = true := h
  show LitBack ⟨k, n, x⟩ (litV k n x) rest i P
  have hne : ¬ validV k n x = false := by rw [h']; simp
  rcases validV_cases h' with ⟨rfl, rfl, rfl⟩ | ⟨rfl, h01, rfl⟩ | ⟨rfl, h1, h2, rfl⟩ | ⟨rfl, rfl, h64⟩ | ⟨rfl, h1, h2, rfl⟩
  · have e : litV 0 0 [] = (⟨1, wNull, 0, 0⟩ : Tok).written := by unfold litV; rw [if_neg hne]; rfl
    rw [e]
    exact lit_one (by decide) (by decide) hr (fun j r => by simp [litL_cons, wNull, wTrue, wFalse, vl0]) hs i
  · rcases h01 with rfl | rfl
    · have e : litV 1 0 [] = (⟨1, wFalse, 0, 0⟩ : Tok).written := by unfold litV; rw [if_neg hne]; rfl
      rw [e]
      exact lit_one (by decide) (by decide) hr (fun j r => by simp [litL_cons, wNull, wTrue, wFalse, vl0]) hs i
    · have e : litV 1 1 [] = (⟨1, wTrue, 0, 0⟩ : Tok).written := by unfold litV; rw [if_neg hne]; rfl
      rw [e]
      exact lit_one (by decide) (by decide) hr (fun j r => by simp [litL_cons, wNull, wTrue, wFalse, vl0]) hs i
  · have e : litV 2 n [] = Lib.itoa n := by unfold litV; rw [if_neg hne]; rfl
    rw [e]
    unfold Lib.itoa
    have okI : ∀ m : Int, 0 ≤ m → m ≤ 1073741824 → (⟨2, [], m, 0⟩ : Tok).ok = true := fun m a b => by
      show okTok 2 [] m = true
      unfold okTok; simp; omega
    by_cases hn : n < 0
    · rw [if_pos hn]
      have ho := okI (-n) (by omega) (by omega)
      have hw : (⟨2, [], -n, 0⟩ : Tok).written = Lib.decDigits n.natAbs := by
        show Lib.decDigits (-n).toNat = _
        congr 1; omega
      obtain ⟨ts, h3, h4⟩ := hs (i + 1 + (⟨2, [], -n, 0⟩ : Tok).written.length)
      have h5 := splitA_minus (i := i) (splitA_one ho (by simp) hr h3)
      rw [hw] at h5
      refine ⟨[⟨5, [45], 0, i⟩, ⟨2, [], -n, (i + 1 : Nat)⟩], ts, h5, h4, ?_, _, _, rfl, by simp⟩
      show litL (⟨5, [45], 0, i⟩ :: (⟨2, [], -n, (i + 1 : Nat)⟩ :: ts)) = _
      rw [litL_cons, if_neg (by simp), if_neg (by simp), if_neg (by simp), if_neg (by simp), if_neg (by simp), if_neg (by simp), if_pos ⟨rfl, rfl⟩]
      show (if (2 : Int) = 2 then some ((⟨2, - -n, []⟩ : Vl), 2) else none) = _
      rw [if_pos rfl, Int.neg_neg]; rfl
    · rw [if_neg hn]
      exact lit_one (t := ⟨2, [], n, 0⟩) (okI _ (by omega) (by omega)) (by simp) hr (fun j r => by simp [litL_cons, wNull, wTrue, wFalse, vl0]) hs i
  · have e : litV 3 0 x = (⟨3, x, 0, 0⟩ : Tok).written := by unfold litV; rw [if_neg hne]; rfl
    rw [e]
    refine lit_one (t := ⟨3, x, 0, 0⟩) ?_ (by simp) hr (fun j r => by simp [litL_cons, wNull, wTrue, wFalse, vl0]) hs i
    show okTok 3 x 0 = true
    unfold okTok; simp; omega
  · have e : litV 4 n [] = (⟨4, [], n, 0⟩ : Tok).written := by unfold litV; rw [if_neg hne]; rfl
    rw [e]
    refine lit_one (t := ⟨4, [], n, 0⟩) ?_ (by simp) hr (fun j r => by simp [litL_cons, wNull, wTrue, wFalse, vl0]) hs i
    show okTok 4 [] n = true
    unfold okTok; simp; omega
/-- What stands behind the first literal. -/
noncomputable def tailS (p : Nat) (vs : List Vl) : Bytes := vs.flatMap fun v => List.replicate p 32 ++ 44 :: litV v.kind v.num v.text
theorem tail_stop (p : Nat) (vs : List Vl) : Stop (tailS p vs) := by
  cases vs with
  | nil => exact .inl rfl
  | cons v vs =>
    right
    unfold tailS
    rw [List.flatMap_cons]
    cases p with
    | zero => exact ⟨44, _, rfl, by decide⟩
    | succ p => exact ⟨32, _, rfl, by decide⟩
def Reads (vs : List Vl) (ts : List Tok) : Prop := ∀ acc, acc ≠ [] → rowGo ts.length ts acc = .ok (acc ++ vs)
theorem tail_back (p : Nat) : ∀ (vs : List Vl), (∀ v ∈ vs, validV v.kind v.num v.text = true) → ∀ i, ∃ ts, splitA (tailS p vs) i = .ok ts ∧ Reads vs ts
  | [], _, i => ⟨_, splitA_nil i, fun acc _ => by show Except.ok acc = _; rw [List.append_nil]⟩
  | v :: vs, h, i => by
    have ih := tail_back p vs (fun v hv => h v (List.mem_cons_of_mem _ hv))
    have e : tailS p (v :: vs) = List.replicate p 32 ++ (44 :: (litV v.kind v.num v.text ++ tailS p vs)) := by
      unfold tailS; rw [List.flatMap_cons]; simp
    rw [e, splitA_blanks]
    obtain ⟨zs, ts, h1, h2, h3, t, r, rfl, h4⟩ := lit_back (h v (by simp)) (tail_stop p vs) ih (i + p + 1)
    refine ⟨_, splitA_comma h1, fun acc ha => ?_⟩
    rw [List.length_cons, rowGo_cons, if_neg (by simp), if_neg ha, if_pos ⟨rfl, rfl⟩, h3]
    show rowGo ((t :: r) ++ ts).length (((t :: r) ++ ts).drop (t :: r).length) (acc ++ [v]) = _
    rw [List.drop_left, rowGo_fuel _ _ _ (by simp; omega), h2 _ (by simp)]
    simp
theorem litV_len {v : Vl} (h : validV v.kind v.num v.text = true) : (litV v.kind v.num v.text).length ≤ 140 := by
  obtain ⟨k, n, x⟩ := v
  have h' : validV k n x = true := h
  show (litV k n x).length ≤ 140
  have hne : ¬ validV k n x = false := by rw [h']; simp
  rcases validV_cases h' with ⟨rfl, rfl, rfl⟩ | ⟨rfl, h01, rfl⟩ | ⟨rfl, h1, h2, rfl⟩ | ⟨rfl, rfl, h64⟩ | ⟨rfl, h1, h2, rfl⟩
  · rw [show litV 0 0 [] = wNull by unfold litV; rw [if_neg hne]; rfl]; decide
  · rcases h01 with rfl | rfl
    · rw [show litV 1 0 [] = wFalse by unfold litV; rw [if_neg hne]; rfl]; decide
    · rw [show litV 1 1 [] = wTrue by unfold litV; rw [if_neg hne]; rfl]; decide
  · rw [show litV 2 n [] = Lib.itoa n by unfold litV; rw [if_neg hne]; rfl]
    unfold Lib.itoa
    split
    · have := decDigits_le (n := n.natAbs) (by omega); simp; omega
    · have := decDigits_le (n := n.toNat) (by omega); omega
  · rw [show litV 3 0 x = quoteS x by unfold litV; rw [if_neg hne]; rfl]
    have := quote_len x
    unfold quoteS
    rw [List.length_cons, List.length_append, List.length_singleton]; omega
  · rw [show litV 4 n [] = 64 :: fmtS n by unfold litV; rw [if_neg hne]; rfl]
    have := fmtS_len h1 h2
    simp; omega
theorem tail_len (p : Nat) : ∀ (vs : List Vl), (∀ v ∈ vs, validV v.kind v.num v.text = true) → (tailS p vs).length ≤ vs.length * (p + 141)
  | [], _ => by simp [tailS]
  | v :: vs, h => by
    have ih := tail_len p vs (fun v hv => h v (List.mem_cons_of_mem _ hv))
    have hv := litV_len (h v (by simp))
    have e : tailS p (v :: vs) = List.replicate p 32 ++ (44 :: (litV v.kind v.num v.text ++ tailS p vs)) := by
      unfold tailS; rw [List.flatMap_cons]; simp
    rw [e, List.length_cons, Nat.succ_mul]
    simp only [List.length_append, List.length_replicate, List.length_cons]
    omega
/-- The text of a row. -/
noncomputable def rowText (p : Nat) (vs : List Vl) : Bytes := Lib.join (vs.map fun v => litV v.kind v.num v.text) (List.replicate p 32 ++ [44])
theorem rowText_cons (p : Nat) (v : Vl) (vs : List Vl) : rowText p (v :: vs) = litV v.kind v.num v.text ++ tailS p vs := by
  unfold rowText tailS
  rw [List.map_cons, Lib.join_cons]
  congr 1
  unfold Lib.joinTail
  rw [List.map_map, List.flatMap_def]
  congr 1
  refine List.map_congr_left fun v _ => ?_
  simp
theorem rowText_len (p : Nat) (hp : p ≤ 2) (vs : List Vl) (hl : vs.length ≤ 12) (h : ∀ v ∈ vs, validV v.kind v.num v.text = true) : (rowText p vs).length ≤ 2000 := by
  cases vs with
  | nil => show (Lib.join [] _).length ≤ _; rw [Lib.join_nil]; simp
  | cons v vs =>
    have h1 := litV_len (h v (by simp))
    have h2 := tail_len p vs (fun v hv => h v (List.mem_cons_of_mem _ hv))
    rw [rowText_cons, List.length_append]
    have h3 : vs.length ≤ 11 := by simpa using hl
    have h4 : vs.length * (p + 141) ≤ 11 * 143 := Nat.mul_le_mul h3 (by omega)
    omega
theorem row_back (p : Nat) (hp : p ≤ 2) (vs : List Vl) (hl : vs.length ≤ 12) (h : ∀ v ∈ vs, validV v.kind v.num v.text = true) : rowS (rowText p vs) = .ok vs := by
  have hlen := rowText_len p hp vs hl h
  have hsp : splitS (rowText p vs) = splitA (rowText p vs) 0 := by unfold splitS; rw [if_neg (by omega)]; rfl
  unfold rowS
  rw [hsp]
  cases vs with
  | nil => rfl
  | cons v vs =>
    rw [rowText_cons]
    obtain ⟨zs, ts, h1, h2, h3, t, r, rfl, h4⟩ := lit_back (h v (by simp)) (tail_stop p vs) (tail_back p vs (fun v hv => h v (List.mem_cons_of_mem _ hv))) 0
    rw [h1]
    show rowT ((t :: r) ++ ts) = _
    unfold rowT
    have e : rowGo ((t :: r) ++ ts).length ((t :: r) ++ ts) [] = .ok (v :: vs) := by
      rw [List.cons_append, List.length_cons, rowGo_cons, if_neg h4, if_pos rfl, ← List.cons_append, h3]
      show rowGo (r ++ ts).length (((t :: r) ++ ts).drop (t :: r).length) ([] ++ [v]) = _
      rw [List.drop_left, rowGo_fuel _ _ _ (by simp), h2 _ (by simp)]
      rfl
    rw [e]
    show (if 12 < (v :: vs).length then _ else _) = _
    rw [if_neg (by omega)]
end Go.Proofs.YtajcddaahmbllaaDoor

namespace Go.Proofs.YtajcddaahmbllaaDoor
open Go.RowKit
def placeI (x n : Int) : Int := (x.tmod n + n).tmod n
theorem placeI_bd (x n : Int) (h : 1 ≤ n) : 0 ≤ placeI x n ∧ placeI x n < n := by
  have h2 : -n < x.tmod n := by
    by_cases hx : 0 ≤ x
    · have := Int.tmod_nonneg n hx; omega
    · have h3 : x.tmod n = -((-x).tmod n) := by rw [Int.neg_tmod]; omega
      have h4 := Int.tmod_lt_of_pos (-x) (b := n) (by omega)
      omega
  unfold placeI
  exact ⟨Int.tmod_nonneg _ (by omega), Int.tmod_lt_of_pos _ (by omega)⟩
theorem tmod_bd (x n : Int) (h : 1 ≤ n) : -n < x.tmod n ∧ x.tmod n < n := by
  refine ⟨?_, Int.tmod_lt_of_pos _ (by omega)⟩
  by_cases hx : 0 ≤ x
  · have := Int.tmod_nonneg n hx; omega
  · have h3 : x.tmod n = -((-x).tmod n) := by rw [Int.neg_tmod]; omega
    have h4 := Int.tmod_lt_of_pos (-x) (b := n) (by omega)
    omega
set_option maxHeartbeats 1000000 in
theorem place_any (x n : Int) (w : World) (h1 : 1 ≤ n) (h2 : n ≤ 1000) :
    Calls Tryd.prog 11 #[.int .i64 x, .int .i64 n] w fun e w' => e = .returned (.int .i64 (placeI x n)) ∧ w = w' := by
  obtain ⟨t1, t2⟩ := tmod_bd x n h1
  have HE := hide (show placeI x n = (x.tmod n + n).tmod n from rfl)
  have hz : (n == 0) = false := by simp; omega
  go_enter Tryd.func11, Tryd.ntmps11
  go_wp2
  go_ret
  exact ⟨ret_int (by rw [HE.out]; exact (Int.tmod_eq_emod_of_nonneg (by omega)).symm), rfl⟩
/-- A value of some number below n. -/
def SomeLt (n : Int) (e : Ending) : Prop := ∃ r : Int, 0 ≤ r ∧ r < n ∧ e = .returned (.int .i64 r)
/-- The stream of numbers in block G. -/
def NumIs (w : World) (G : Nat) (A : Option Addr) (n c : Nat) : Prop := ∃ k : Nat, k ≤ n ∧ w.heap[G]? = some (.cells #[.slice A n c, .int .i64 k] 35)
theorem NumIs.grown {w w' : World} {G : Nat} {A : Option Addr} {n c : Nat} (h : NumIs w G A n c) (hg : w.grownBy w' none) (hG : G < w.heap.size) : NumIs w' G A n c := by
  obtain ⟨k, hk, h⟩ := h
  exact ⟨k, hk, (hg.block G hG (by simp)).trans h⟩
theorem IntsAt.grown {w w' : World} {A : Option Addr} {l : List Int} {G : Nat} (h : IntsAt w A l) (hg : w.grownBy w' (some G)) (hA : l ≠ [] → ∀ a, A = some a → a.block < G) : IntsAt w' A l := by
  rcases h with h | ⟨a, rfl, hb, hl, hc⟩
  · exact .inl h
  · by_cases h0 : l = []
    · exact .inl h0
    refine .inr ⟨a, rfl, Nat.lt_of_lt_of_le hb hg.size, hl, fun k hk => ?_⟩
    refine hg.cell (hc k hk) ?_
    have := hA h0 a rfl
    have e : (a.add k).block = a.block := by cases k <;> simp [Addr.add]
    rw [e]
    intro e; injection e with e; omega
def NextRes (w w' : World) (G : Nat) (A : Option Addr) (n c : Nat) (m : Int) (e : Ending) : Prop := SomeLt m e ∧ w.grownBy w' (some G) ∧ NumIs w' G A n c
set_option maxHeartbeats 1000000 in
theorem next_any (G : Nat) (A : Option Addr) (l : List Int) (c : Nat) (m : Int) (w : World) (h1 : 1 ≤ m) (h2 : m ≤ 1000) (hl : IntsAt w A l) (hlm : l.length ≤ 1000000)
    (hA : l ≠ [] → ∀ a, A = some a → a.block < G) (hG : NumIs w G A l.length c) :
    Calls Tryd.prog 13 #[.pointer (some ⟨G, 0, none⟩), .int .i64 m] w fun e w' => NextRes w w' G A l.length c m e := by
  obtain ⟨k, hk, hh⟩ := hG
  have hlt := lt_of_heap hh
  have c0 : w.cell? ⟨G, 0, none⟩ = some (.slice A l.length c) := by rw [cell_of_heap hh]; rfl
  have c1 : w.cell? ⟨G, 1, none⟩ = some (.int .i64 k) := by rw [cell_of_heap hh]; rfl
  have f0 : ∀ i, w.frozen? ⟨G, i, none⟩ = false := fun i => free_of_heap hh i
  have hm1 : decide (m < 1) = false := by simp; omega
  by_cases hkl : k < l.length
  · have hd : decide (l.length ≤ k) = false := by simp; omega
    rcases hl with rfl | ⟨a, rfl, hab, _, hac⟩
    · simp at hkl
    have hcell := hac k hkl
    have hne := hA (by rintro rfl; simp at hkl) a rfl
    have hc2 : ∀ u n, ((w.drewN n).setCell ⟨G, 1, none⟩ u).cell? (a.add k) = some (.int .i64 (l.getD k 0)) := fun u n => by
      rw [World.cell?_setCell_other _ _ _ _ (by intro e; have := congrArg Addr.block e; cases k <;> simp [Addr.add] at this <;> omega)]
      exact hcell
    have HP := hide (fun W => place_any (l.getD k 0) m W h1 h2)
    have HB := hide (placeI_bd (l.getD k 0) m h1)
    have HH := hide hh
    have HS := hide hc2
    clear hh hac hab hc2
    generalize l.getD k 0 = x at *
    generalize placeI x m = y at *
    go_enter Tryd.func13, Tryd.ntmps13
    go_wp2
    go_big_quiet (fail)
    have hc3 := HS.out
    have hw : IntKind.i64.wrap (k : Int) = (k : Int) := IntWalk.i64_in _ (by omega)
    have hi1 : (k : Int) < (l.length : Int) := by omega
    have hi0 : (0 : Int) ≤ (k : Int) := by omega
    go_wp2
    go_quiet ((go_at_call 11; exact quiet_left (HP.out _)))
    go_wp2
    go_ret
    have hs := heap_setCell_same w G 1 _ _ (.int .i64 ((k : Int) + 1)) HH.out
    exact ⟨⟨y, HB.out.1, HB.out.2, rfl⟩, ⟨rfl, rfl, rfl, by simp [World.setCell], fun j _ hj => Below.heap_setCell w ⟨G, 1, none⟩ (.int .i64 ((k : Int) + 1)) j (fun e => hj (by rw [e]))⟩, k + 1, hkl, hs⟩
  · have hd : decide (l.length ≤ k) = true := by simp; omega
    have HH := hide hh; clear hh
    go_enter Tryd.func13, Tryd.ntmps13
    go_wp2
    go_big_quiet (fail)
    go_wp2
    go_ret
    exact ⟨⟨0, by omega, by omega, rfl⟩, ⟨rfl, rfl, rfl, Nat.le_refl _, fun _ _ _ => rfl⟩, k, hk, HH.out⟩
/-- A slice of numbers that are instants. -/
def InstRes (w w' : World) (e : Ending) : Prop := ∃ g c : Nat, e = .returned (.slice (some ⟨g, 0, none⟩) 16 c) ∧ 16 ≤ c ∧ c ≤ maxLen ∧ w.heap.size ≤ g ∧ g < w'.heap.size ∧ ∀ j, j < 16 → ∃ x : Int, w'.cell? ⟨g, j, none⟩ = some (.int .i64 x) ∧ 0 ≤ x ∧ x ≤ 575999999
set_option maxHeartbeats 1000000 in
theorem instants_any (w : World) : Calls Tryd.prog 27 #[] w fun e w' => InstRes w w' e ∧ Below w.heap.size w w' := by
  go_enter Tryd.func27, Tryd.ntmps27
  go_wp2
  generalize hW : w.alloc _ = W1
  have hB : Below w.heap.size w W1 := by subst hW; (repeat (first | exact Below.refl _ _ | assumption | refine Below.drew ?_ | refine below_drewN ?_ _ | refine Below.alloc ?_ (by first | omega | (simp; done) | (simp; omega)) _ | refine Below.setCell ?_ (by first | omega | (simp; done) | (simp; omega)) _))
  have hP : ∀ j, j < 16 → ∃ x : Int, W1.cell? ⟨w.heap.size, j, none⟩ = some (.int .i64 x) ∧ 0 ≤ x ∧ x ≤ 9000 := by
    intro j hj
    subst hW
    rw [cell_of_heap (heap_alloc_new w _)]
    match j, hj with
    | 0, _ => exact ⟨_, rfl, by decide⟩
    | 1, _ => exact ⟨_, rfl, by decide⟩
    | 2, _ => exact ⟨_, rfl, by decide⟩
    | 3, _ => exact ⟨_, rfl, by decide⟩
    | 4, _ => exact ⟨_, rfl, by decide⟩
    | 5, _ => exact ⟨_, rfl, by decide⟩
    | 6, _ => exact ⟨_, rfl, by decide⟩
    | 7, _ => exact ⟨_, rfl, by decide⟩
    | 8, _ => exact ⟨_, rfl, by decide⟩
    | 9, _ => exact ⟨_, rfl, by decide⟩
    | 10, _ => exact ⟨_, rfl, by decide⟩
    | 11, _ => exact ⟨_, rfl, by decide⟩
    | 12, _ => exact ⟨_, rfl, by decide⟩
    | 13, _ => exact ⟨_, rfl, by decide⟩
    | 14, _ => exact ⟨_, rfl, by decide⟩
    | 15, _ => exact ⟨_, rfl, by decide⟩
    | n + 16, h => exact absurd h (by omega)
  have hf : ∃ cs, W1.heap[w.heap.size]? = some (.cells cs 3) := by subst hW; exact ⟨_, heap_alloc_new w _⟩
  have HP := hide hP
  clear hP hW
  go_loopw [2] (fun i wr => ∃ (k : Nat) (cs : Array Value), k ≤ 16 ∧ i = .int .i64 k ∧ wr.heap[w.heap.size]? = some (.cells cs 3) ∧ Below w.heap.size w wr ∧
      Hid (∀ j, j < 16 → ∃ x : Int, cs[j]? = some (.int .i64 x) ∧ 0 ≤ x ∧ x ≤ 9000 + 144000 * k)) (fun i _ => 16 - (intOf i).toNat)
  case atStart =>
    obtain ⟨cs, hcs⟩ := hf
    refine ⟨0, cs, by omega, rfl, hcs, hB, fun j hj => ?_⟩
    obtain ⟨x, h1, h2, h3⟩ := HP.out j hj
    rw [cell_of_heap hcs] at h1
    exact ⟨x, h1, h2, by omega⟩
  case round =>
    obtain ⟨k, cs, hk, rfl, hcs, hbel, HC⟩ := hrel
    have hlt := lt_of_heap hcs
    by_cases hk6 : k < 16
    · obtain ⟨x, hx1, hx2, hx3⟩ := HC.out k hk6
      have hc : wr.cell? ⟨w.heap.size, k, none⟩ = some (.int .i64 x) := by rw [cell_of_heap hcs]; exact hx1
      have hf := free_of_heap hcs k
      have HS := hide hcs
      clear hcs
      go_wp2
      refine ⟨⟨k + 1, _, by omega, by go_num, heap_setCell_same wr w.heap.size k _ _ _ HS.out, Below.setCell hbel (Nat.le_refl _) _, fun j hj => ?_⟩, by simp [intOf]; omega⟩
      by_cases e : j = k
      · subst e
        have hsz : j < cs.size := by
          rcases Nat.lt_or_ge j cs.size with h | h
          · exact h
          · rw [Array.getElem?_eq_none h] at hx1; cases hx1
        exact ⟨x + 144000, by simp [Array.getElem?_setIfInBounds, hsz], by omega, by omega⟩
      · obtain ⟨z, z1, z2, z3⟩ := HC.out j hj
        exact ⟨z, by rw [Array.getElem?_setIfInBounds_ne (by omega)]; exact z1, z2, by omega⟩
    · go_wp2
      go_ret
      refine ⟨⟨w.heap.size, 16, rfl, by omega, by decide, Nat.le_refl _, hlt, fun j hj => ?_⟩, hbel⟩
      obtain ⟨x, h1, h2, h3⟩ := HC.out j hj
      exact ⟨x, by rw [cell_of_heap hcs]; exact h1, h2, by omega⟩
theorem box3set {w : World} {B : Nat} {x y z : Value} (h0 : w.cell? ⟨B, 0, none⟩ = some x) (h1 : w.cell? ⟨B, 1, none⟩ = some y) (h2 : w.cell? ⟨B, 2, none⟩ = some z) (a b c : Value) :
    (w.setCell ⟨B, 0, none⟩ a).cell? ⟨B, 0, none⟩ = some a ∧ ((w.setCell ⟨B, 0, none⟩ a).setCell ⟨B, 1, none⟩ b).cell? ⟨B, 1, none⟩ = some b ∧ (((w.setCell ⟨B, 0, none⟩ a).setCell ⟨B, 1, none⟩ b).setCell ⟨B, 2, none⟩ c).cell? ⟨B, 2, none⟩ = some c := by
  refine ⟨World.cell?_setCell_same _ _ _ h0, World.cell?_setCell_same (u := y) _ _ _ ?_, World.cell?_setCell_same (u := z) _ _ _ ?_⟩
  · rw [World.cell?_setCell_other _ _ _ _ (by simp)]; exact h1
  · rw [World.cell?_setCell_other _ _ _ _ (by simp), World.cell?_setCell_other _ _ _ _ (by simp)]; exact h2
theorem NumIs.setCell {w : World} {G : Nat} {A : Option Addr} {n c : Nat} (h : NumIs w G A n c) {p : Addr} (hp : G ≠ p.block) (v : Value) : NumIs (w.setCell p v) G A n c := by
  obtain ⟨k, hk, h⟩ := h
  exact ⟨k, hk, (Below.heap_setCell _ _ _ _ hp).trans h⟩
theorem NumIs.below {w w' : World} {G : Nat} {A : Option Addr} {n c : Nat} (h : NumIs w G A n c) (hG : G < w.heap.size) (hb : Below w.heap.size w w') : NumIs w' G A n c := by
  obtain ⟨k, hk, h⟩ := h
  exact ⟨k, hk, (hb.block G hG).trans h⟩
def ValRes (w w' : World) (G : Nat) (A : Option Addr) (n c : Nat) (e : Ending) : Prop :=
  (∃ v : Vl, validV v.kind v.num v.text = true ∧ v.text.length ≤ 4 ∧ e = .returned v.agg) ∧ w.grownBy w' (some G) ∧ NumIs w' G A n c
theorem grown_trans {a b c : World} {row : Option Nat} (h : a.grownBy b row) (h2 : b.grownBy c row) : a.grownBy c row :=
  ⟨h2.os.trans h.os, h2.tape.trans h.tape, h2.output.trans h.output, Nat.le_trans h.size h2.size, fun k hk hr => (h2.block k (Nat.lt_of_lt_of_le hk h.size) hr).trans (h.block k hk hr)⟩
theorem grown_setCell {a b : World} {row : Option Nat} (h : a.grownBy b row) {p : Addr} (hp : a.heap.size ≤ p.block) (v : Value) : a.grownBy (b.setCell p v) row :=
  ⟨h.os, h.tape, h.output, by have := h.size; simp [World.setCell]; omega, fun k hk hr => (Below.heap_setCell _ _ _ _ (by omega)).trans (h.block k hk hr)⟩
theorem grown_alloc {a b : World} {row : Option Nat} (h : a.grownBy b row) (o : Obj) : a.grownBy (b.alloc o) row := grown_trans h (World.grownBy_alloc b o row)
theorem grown_refl (a : World) (row : Option Nat) : a.grownBy a row := ⟨rfl, rfl, rfl, Nat.le_refl _, fun _ _ _ => rfl⟩
theorem grown_below {a b c : World} {row : Option Nat} (h : a.grownBy b row) (h2 : Below b.heap.size b c) : a.grownBy c row :=
  grown_trans h ⟨h2.os, h2.tape, h2.output, h2.size, fun k hk _ => h2.block k hk⟩
set_option maxHeartbeats 2000000 in
theorem value_any (G : Nat) (A : Option Addr) (l : List Int) (c : Nat) (s : ByteArray) (k : Int) (w : World) (h1 : 1 ≤ k) (h2 : k ≤ 4) (hl : IntsAt w A l) (hlm : l.length ≤ 1000000)
    (hA : l ≠ [] → ∀ a, A = some a → a.block < G) (hGs : G < w.heap.size) (hG : NumIs w G A l.length c) :
    Calls Tryd.prog 12 #[.agg #[.string s, .int .i64 k, .bool true], .pointer (some ⟨G, 0, none⟩)] w fun e w' => ValRes w w' G A l.length c e := by
  have HL := hide hl; have HA := hide hA; have HG := hide hG
  clear hl hA hG
  go_enter Tryd.func12, Tryd.ntmps12
  go_wp2_with fail
  refine (next_any G A l c 5 _ (by omega) (by omega) (HL.out.below (by (repeat (first | exact Below.refl _ _ | assumption | refine Below.drew ?_ | refine below_drewN ?_ _ | refine Below.alloc ?_ (by first | omega | (simp; done) | (simp; omega)) _ | refine Below.setCell ?_ (by first | omega | (simp; done) | (simp; omega)) _)))) hlm HA.out (HG.out.below hGs (by (repeat (first | exact Below.refl _ _ | assumption | refine Below.drew ?_ | refine below_drewN ?_ _ | refine Below.alloc ?_ (by first | omega | (simp; done) | (simp; omega)) _ | refine Below.setCell ?_ (by first | omega | (simp; done) | (simp; omega)) _))))).mono ?_
  rintro e w1 ⟨⟨r, hr0, hr1, rfl⟩, hg1, hn1⟩
  have hlt1 := hg1.size
  simp only [World.size_alloc] at hlt1
  have hB0 : w1.heap[w.heap.size]? = some (.cells #[.string s, .int .i64 k, .bool true] 40) :=
    (hg1.block _ (by simp; omega) (by simp; omega)).trans ((heap_alloc_old _ _ (by simp)).trans (heap_alloc_new w _))
  have hB1 : w1.heap[w.heap.size + 1]? = some (.cells #[.int .i64 0, .int .i64 0, str []] 23) :=
    (hg1.block _ (by simp) (by simp; omega)).trans (by have := heap_alloc_new (w.alloc (.cells #[.string s, .int .i64 k, .bool true] 40)) (.cells #[.int .i64 0, .int .i64 0, str []] 23); simpa using this)
  have HL1 := hide (fun W (hb : Below w1.heap.size w1 W) => ((HL.out.below (show Below w.heap.size w ((w.alloc _).alloc _) from by (repeat (first | exact Below.refl _ _ | assumption | refine Below.drew ?_ | refine below_drewN ?_ _ | refine Below.alloc ?_ (by first | omega | (simp; done) | (simp; omega)) _ | refine Below.setCell ?_ (by first | omega | (simp; done) | (simp; omega)) _)))).grown hg1 HA.out).below hb)
  have HG1 := hide hn1
  have HW1 := hide (grown_trans (grown_alloc (grown_alloc (grown_refl w (some G)) _) _) hg1)
  clear hg1 hn1
  have k0 : w1.cell? ⟨w.heap.size, 1, none⟩ = some (.int .i64 k) := by rw [cell_of_heap hB0]; rfl
  have k1 : w1.cell? ⟨w.heap.size, 2, none⟩ = some (.bool true) := by rw [cell_of_heap hB0]; rfl
  have hGw : G < w1.heap.size := by omega
  have HB1 := hide hB1
  by_cases hr : r = 0
  · subst hr
    have r0 : w1.cell? ⟨w.heap.size + 1, 0, none⟩ = some (.int .i64 0) := by rw [cell_of_heap hB1]; rfl
    have r1 : w1.cell? ⟨w.heap.size + 1, 1, none⟩ = some (.int .i64 0) := by rw [cell_of_heap hB1]; rfl
    have r2 : w1.cell? ⟨w.heap.size + 1, 2, none⟩ = some (str []) := by rw [cell_of_heap hB1]; rfl
    have fr : ∀ i, w1.frozen? ⟨w.heap.size + 1, i, none⟩ = false := fun i => free_of_heap hB1 i
    clear hB0 hB1
    go_wp2
    obtain ⟨s0, s1, s2⟩ := box3set r0 r1 r2 (.int .i64 0) (.int .i64 0) (.string ⟨#[]⟩)
    refine bodyPost_ret (v := vl0.agg) (by simp [results, Tryd.results12, go_sem, vl0, s0, s1, s2]) rfl ⟨⟨vl0, rfl, by decide, rfl⟩, ?_, ?_⟩
    · repeat (refine grown_setCell ?_ (by simp) _)
      exact HW1.out
    · repeat (refine NumIs.setCell ?_ (by simp; omega) _)
      exact HG1.out
  · have hrb : (r == 0) = false := by simpa using hr
    clear hB0 hB1
    rcases (show k = 1 ∨ k = 2 ∨ k = 3 ∨ k = 4 by omega) with rfl | rfl | rfl | rfl
    · go_wp2_with fail
      refine (next_any G A l c 2 _ (by omega) (by omega) (HL1.out _ (by (repeat (first | exact Below.refl _ _ | assumption | refine Below.drew ?_ | refine below_drewN ?_ _ | refine Below.alloc ?_ (by first | omega | (simp; done) | (simp; omega)) _ | refine Below.setCell ?_ (by first | omega | (simp; done) | (simp; omega)) _)))) hlm HA.out HG1.out).mono ?_
      rintro e w2 ⟨⟨r2, hq0, hq1, rfl⟩, hg2, hn2⟩
      have hlt2 := hg2.size
      have hB2 := (hg2.block _ (by first | omega | (simp; omega)) (by simp; omega)).trans HB1.out
      have r0 : w2.cell? ⟨w.heap.size + 1, 0, none⟩ = some (.int .i64 0) := by rw [cell_of_heap hB2]; rfl
      have r1 : w2.cell? ⟨w.heap.size + 1, 1, none⟩ = some (.int .i64 0) := by rw [cell_of_heap hB2]; rfl
      have r3 : w2.cell? ⟨w.heap.size + 1, 2, none⟩ = some (str []) := by rw [cell_of_heap hB2]; rfl
      have fr : ∀ i, w2.frozen? ⟨w.heap.size + 1, i, none⟩ = false := fun i => free_of_heap hB2 i
      have HG2 := hide hn2
      have HW2 := hide (grown_trans HW1.out hg2)
      clear hB2 hg2 hn2
      go_wp2
      obtain ⟨s0, s1, s2⟩ := box3set r0 r1 r3 (.int .i64 1) (.int .i64 r2) (.string ⟨#[]⟩)
      refine bodyPost_ret (v := (⟨1, r2, []⟩ : Vl).agg) (by simp [results, Tryd.results12, go_sem, s0, s1, s2]) rfl ⟨⟨⟨1, r2, []⟩, by rcases (show r2 = 0 ∨ r2 = 1 by omega) with rfl | rfl <;> decide, by simp, rfl⟩, ?_, ?_⟩
      · repeat (refine grown_setCell ?_ (by simp) _)
        exact HW2.out
      · repeat (refine NumIs.setCell ?_ (by simp; omega) _)
        exact HG2.out
    · go_wp2_with fail
      refine (next_any G A l c 7 _ (by omega) (by omega) (HL1.out _ (by (repeat (first | exact Below.refl _ _ | assumption | refine Below.drew ?_ | refine below_drewN ?_ _ | refine Below.alloc ?_ (by first | omega | (simp; done) | (simp; omega)) _ | refine Below.setCell ?_ (by first | omega | (simp; done) | (simp; omega)) _)))) hlm HA.out HG1.out).mono ?_
      rintro e w2 ⟨⟨r2, hq0, hq1, rfl⟩, hg2, hn2⟩
      have hlt2 := hg2.size
      have hB2 := (hg2.block _ (by first | omega | (simp; omega)) (by simp; omega)).trans HB1.out
      have r0 : w2.cell? ⟨w.heap.size + 1, 0, none⟩ = some (.int .i64 0) := by rw [cell_of_heap hB2]; rfl
      have r1 : w2.cell? ⟨w.heap.size + 1, 1, none⟩ = some (.int .i64 0) := by rw [cell_of_heap hB2]; rfl
      have r3 : w2.cell? ⟨w.heap.size + 1, 2, none⟩ = some (str []) := by rw [cell_of_heap hB2]; rfl
      have fr : ∀ i, w2.frozen? ⟨w.heap.size + 1, i, none⟩ = false := fun i => free_of_heap hB2 i
      have HG2 := hide hn2
      have HW2 := hide (grown_trans HW1.out hg2)
      clear hB2 hg2 hn2
      go_wp2
      obtain ⟨s0, s1, s2⟩ := box3set r0 r1 r3 (.int .i64 2) (.int .i64 (r2 - 1)) (.string ⟨#[]⟩)
      refine bodyPost_ret (v := (⟨2, r2 - 1, []⟩ : Vl).agg) (by simp [results, Tryd.results12, go_sem, s0, s1, s2]) rfl ⟨⟨⟨2, r2 - 1, []⟩, by show validV 2 (r2 - 1) [] = true; unfold validV; simp; omega, by simp, rfl⟩, ?_, ?_⟩
      · repeat (refine grown_setCell ?_ (by simp) _)
        exact HW2.out
      · repeat (refine NumIs.setCell ?_ (by simp; omega) _)
        exact HG2.out
    · go_wp2_with fail
      generalize hW : w1.alloc _ = Wt
      have ht : Wt.heap[w1.heap.size]? = some (.cells #[str [], str [97], str [98], str [105, 116, 39, 115], str [122, 122]] 9) := by subst hW; exact heap_alloc_new w1 _
      have hbt : Below w1.heap.size w1 Wt := by subst hW; (repeat (first | exact Below.refl _ _ | assumption | refine Below.drew ?_ | refine below_drewN ?_ _ | refine Below.alloc ?_ (by first | omega | (simp; done) | (simp; omega)) _ | refine Below.setCell ?_ (by first | omega | (simp; done) | (simp; omega)) _))
      have hst : Wt.heap.size = w1.heap.size + 1 := by subst hW; simp
      clear hW
      refine (next_any G A l c 5 _ (by omega) (by omega) (HL1.out _ hbt) hlm HA.out (HG1.out.below hGw hbt)).mono ?_
      rintro e w2 ⟨⟨r2, hq0, hq1, rfl⟩, hg2, hn2⟩
      have hB1t := (hbt.block _ (by omega)).trans HB1.out
      have ht2 := (hg2.block _ (by omega) (by simp; omega)).trans ht
      have hlt2 := hg2.size
      have hB2 := (hg2.block _ (by first | omega | (simp; omega)) (by simp; omega)).trans hB1t
      have r0 : w2.cell? ⟨w.heap.size + 1, 0, none⟩ = some (.int .i64 0) := by rw [cell_of_heap hB2]; rfl
      have r1 : w2.cell? ⟨w.heap.size + 1, 1, none⟩ = some (.int .i64 0) := by rw [cell_of_heap hB2]; rfl
      have r3 : w2.cell? ⟨w.heap.size + 1, 2, none⟩ = some (str []) := by rw [cell_of_heap hB2]; rfl
      have fr : ∀ i, w2.frozen? ⟨w.heap.size + 1, i, none⟩ = false := fun i => free_of_heap hB2 i
      have HG2 := hide hn2
      have HW2 := hide (grown_trans (grown_below HW1.out hbt) hg2)
      have hcell : ∃ x : Bytes, x.length ≤ 4 ∧ w2.cell? ⟨w1.heap.size, r2.toNat, none⟩ = some (str x) := by
        rcases (show r2 = 0 ∨ r2 = 1 ∨ r2 = 2 ∨ r2 = 3 ∨ r2 = 4 by omega) with rfl | rfl | rfl | rfl | rfl <;> refine ⟨_, ?_, by rw [cell_of_heap ht2]; rfl⟩ <;> decide
      obtain ⟨x, hx, hcx⟩ := hcell
      clear hB2 hB1t ht2 ht hg2 hn2
      go_wp2
      obtain ⟨s0, s1, s2⟩ := box3set r0 r1 r3 (.int .i64 3) (.int .i64 0) (.string ⟨x.toArray⟩)
      refine bodyPost_ret (v := (⟨3, 0, x⟩ : Vl).agg) (by simp [results, Tryd.results12, go_sem, s0, s1, s2]) rfl ⟨⟨⟨3, 0, x⟩, by show validV 3 0 x = true; unfold validV; simp; omega, hx, rfl⟩, ?_, ?_⟩
      · repeat (refine grown_setCell ?_ (by simp) _)
        exact HW2.out
      · repeat (refine NumIs.setCell ?_ (by simp; omega) _)
        exact HG2.out
    · go_wp2_with fail
      refine (instants_any _).mono ?_
      rintro e Wt ⟨⟨gi, ci, rfl, hci1, hci2, hgi1, hgi2, hcs⟩, hbt⟩
      refine ?_
      have hst := hbt.size
      go_wp2_with fail
      refine (next_any G A l c 16 _ (by omega) (by omega) (HL1.out _ hbt) hlm HA.out (HG1.out.below hGw hbt)).mono ?_
      rintro e w2 ⟨⟨r2, hq0, hq1, rfl⟩, hg2, hn2⟩
      have hB1t := (hbt.block _ (by omega)).trans HB1.out
      have hlt2 := hg2.size
      have hB2 := (hg2.block _ (by first | omega | (simp; omega)) (by simp; omega)).trans hB1t
      have r0 : w2.cell? ⟨w.heap.size + 1, 0, none⟩ = some (.int .i64 0) := by rw [cell_of_heap hB2]; rfl
      have r1 : w2.cell? ⟨w.heap.size + 1, 1, none⟩ = some (.int .i64 0) := by rw [cell_of_heap hB2]; rfl
      have r3 : w2.cell? ⟨w.heap.size + 1, 2, none⟩ = some (str []) := by rw [cell_of_heap hB2]; rfl
      have fr : ∀ i, w2.frozen? ⟨w.heap.size + 1, i, none⟩ = false := fun i => free_of_heap hB2 i
      have HG2 := hide hn2
      have HW2 := hide (grown_trans (grown_below HW1.out hbt) hg2)
      obtain ⟨x, hx1, hx2, hx3⟩ := hcs r2.toNat (by omega)
      have hcx : w2.cell? ⟨gi, r2.toNat, none⟩ = some (.int .i64 x) := hg2.cell hx1 (by simp; omega)
      clear hB2 hB1t hg2 hn2 hcs
      go_wp2
      obtain ⟨s0, s1, s2⟩ := box3set r0 r1 r3 (.int .i64 4) (.int .i64 x) (.string ⟨#[]⟩)
      refine bodyPost_ret (v := (⟨4, x, []⟩ : Vl).agg) (by simp [results, Tryd.results12, go_sem, s0, s1, s2]) rfl ⟨⟨⟨4, x, []⟩, by show validV 4 x [] = true; unfold validV; simp; omega, by simp, rfl⟩, ?_, ?_⟩
      · repeat (refine grown_setCell ?_ (by simp) _)
        exact HW2.out
      · repeat (refine NumIs.setCell ?_ (by simp; omega) _)
        exact HG2.out
end Go.Proofs.YtajcddaahmbllaaDoor
