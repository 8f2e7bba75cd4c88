/- Plain: the text of a list of tokens. Contracts: ref7.written, ref7.Join. Plain: replacing each apostrophe by two; what token.Join asks of the world. Contract: token.Join. Plain: what the splitter returns is well-formed; splitting a joined text gives the tokens back. No program in sight. Plain: what the splitter returns is well-formed. No program in sight. -/
import Derived.Test.YtlfedcbihbigoaaGreatDoorValDF
import Derived.Test.YtlfedcbihbigoaaGreatDoorDigP
import Derived.Test.YtlfedcbihbigoaaGreatDoorShelf
set_option linter.unusedVariables false
set_option linter.unusedSimpArgs false
namespace Go.Proofs.YtlfedcbihbigoaaGreatDoor
open Go.RowKit
noncomputable def writtenS (k : Int) (x : Bytes) (n : Int) : Bytes := if k = 2 then Lib.decDigits n.toNat else if k = 3 then quoteS x else if k = 4 then 64 :: fmtS n else x
noncomputable def Tok.written (t : Tok) : Bytes := writtenS t.kind t.text t.num
noncomputable def joinS (ts : List Tok) : Bytes := List.intercalate [32] (ts.dropLast.map Tok.written)
noncomputable def joinR (ts : List Tok) : Bytes × Int := if valT ts = true then (if 65536 < (joinS ts).length then ([], 2) else (joinS ts, 0)) else ([], 8)
theorem isNameB_len {m : Nat} {l : Bytes} (h : isNameB m l = true) : l.length ≤ m := by
  unfold isNameB at h
  simp at h
  exact h.1
theorem isQualB_le {l : Bytes} (h : isQualB 24 l = true) : l.length ≤ 49 := by
  unfold isQualB at h
  split at h
  · simp at h
    have h1 := isNameB_len h.1
    have h2 := isNameB_len h.2
    rw [List.length_take] at h1
    rw [List.length_drop] at h2
    omega
  · have := isNameB_len h; omega
theorem okTok_cases {k n : Int} {x : Bytes} (h : okTok k x n = true) : (k = 0 ∧ x = [] ∧ n = 0) ∨ (k = 1 ∧ isQualB 24 x = true ∧ n = 0) ∨ (k = 2 ∧ x = [] ∧ 0 ≤ n ∧ n ≤ 1073741824) ∨ (k = 3 ∧ x.length ≤ 64 ∧ n = 0) ∨ (k = 4 ∧ x = [] ∧ 0 ≤ n ∧ n ≤ 575999999) ∨ (k = 5 ∧ symB x = true ∧ n = 0) := by
  unfold okTok at h
  split at h
  · simp_all
  split at h
  · simp_all
  split at h
  · simp_all
  split at h
  · simp_all
  split at h
  · simp_all
  split at h
  · simp_all
  · cases h
theorem symB_len {x : Bytes} (h : symB x = true) : x.length ≤ 2 ∧ x ≠ [] := by
  unfold symB at h
  rw [List.contains_iff_mem] at h
  have : ∀ x ∈ symbolsS, x.length ≤ 2 ∧ x ≠ [] := by decide
  exact this x h
theorem okTok_len {k n : Int} {x : Bytes} (h : okTok k x n = true) : x.length ≤ 64 := by
  rcases okTok_cases h with ⟨_, rfl, _⟩ | ⟨_, h2, _⟩ | ⟨_, rfl, _⟩ | ⟨_, h2, _⟩ | ⟨_, rfl, _⟩ | ⟨_, h2, _⟩
  · simp
  · have := isQualB_le h2; omega
  · simp
  · exact h2
  · simp
  · have := (symB_len h2).1; omega
theorem decDigits_le {n : Nat} (h : n ≤ 1073741824) : (Lib.decDigits n).length ≤ 100 := by
  have : ∀ (f u : Nat), u < 10 ^ (f + 1) → (Lib.decDigits u).length ≤ f + 1
    := by
    intro f
    induction f with
    | zero => intro u hu; rw [Lib.decDigits_one (by omega)]; simp
    | succ f ih =>
      intro u hu
      by_cases h10 : u < 10
      · rw [Lib.decDigits_one h10]; simp
      · rw [decDigits_rec u h10, List.length_append]
        have := ih (u / 10) (by rw [Nat.pow_succ] at hu; omega)
        simp; omega
  have := this 9 n (by omega)
  omega
theorem written_len {k n : Int} {x : Bytes} (h : okTok k x n = true) : (writtenS k x n).length ≤ 130 := by
  have hl := okTok_len h
  unfold writtenS
  rcases okTok_cases h with ⟨rfl, rfl, _⟩ | ⟨rfl, h2, _⟩ | ⟨rfl, rfl, h3, h4⟩ | ⟨rfl, h2, _⟩ | ⟨rfl, rfl, h3, h4⟩ | ⟨rfl, h2, _⟩
  · simp
  · simp; omega
  · rw [if_pos rfl]
    have := decDigits_le (n := n.toNat) (by omega)
    omega
  · rw [if_neg (by decide), if_pos rfl]
    unfold quoteS
    have := quote_len x
    simp only [List.length_cons, List.length_append, List.length_nil]; omega
  · rw [if_neg (by decide), if_neg (by decide), if_pos rfl]
    have := fmtS_len h3 h4
    simp; omega
  · simp; omega
/-- What the reference's loop holds: the texts of the first k tokens. -/
theorem inter_snoc (l : List Bytes) (x : Bytes) (h : l ≠ []) : List.intercalate [32] (l ++ [x]) = List.intercalate [32] l ++ [32] ++ x := by
  induction l with
  | nil => exact absurd rfl h
  | cons a l ih =>
    cases l with
    | nil => simp [List.intercalate]
    | cons b l =>
      have := ih (by simp)
      simp only [List.intercalate, List.cons_append, List.intersperse, List.flatten_cons] at *
      simp [this]
theorem inter_len (l : List Bytes) (h : ∀ x ∈ l, x.length ≤ 130) : (List.intercalate [32] l).length ≤ 131 * l.length := by
  induction l with
  | nil => simp [List.intercalate]
  | cons a l ih =>
    have ih' := ih (fun x hx => h x (by simp [hx]))
    have ha := h a (by simp)
    cases l with
    | nil => simp [List.intercalate]; omega
    | cons b l =>
      simp only [List.intercalate, List.intersperse, List.flatten_cons, List.length_append, List.length_cons, List.length_nil] at *
      omega
theorem inter_mono (l m : List Bytes) : (List.intercalate [32] l).length ≤ (List.intercalate [32] (l ++ m)).length := by
  induction m generalizing l with
  | nil => simp
  | cons x m ih =>
    have := ih (l ++ [x])
    rw [List.append_assoc, List.singleton_append] at this
    refine Nat.le_trans ?_ this
    by_cases h : l = []
    · subst h; simp [List.intercalate]
    · rw [inter_snoc l x h]; simp <;> omega
end Go.Proofs.YtlfedcbihbigoaaGreatDoor

namespace Go.Proofs.YtlfedcbihbigoaaGreatDoor
open Go.RowKit
/-- The texts of the first k tokens, with blanks between. -/
noncomputable def partS (ts : List Tok) (k : Nat) : Bytes := List.intercalate [32] ((ts.take k).map Tok.written)
theorem partS_zero (ts : List Tok) : partS ts 0 = [] := rfl
theorem partS_one (ts : List Tok) (h : 0 < ts.length) : partS ts 1 = ts[0].written := by
  cases ts with
  | nil => simp at h
  | cons t ts => simp [partS, List.intercalate]
theorem partS_succ (ts : List Tok) (k : Nat) (h : k < ts.length) (h0 : 0 < k) : partS ts (k + 1) = partS ts k ++ [32] ++ ts[k].written := by
  unfold partS
  rw [List.take_succ_eq_append_getElem h, List.map_append]
  refine inter_snoc _ _ fun e => ?_
  have : ((ts.take k).map Tok.written).length = 0 := by rw [e]; rfl
  rw [List.length_map, List.length_take] at this
  omega
theorem partS_mono (ts : List Tok) {j k : Nat} (h : j ≤ k) : (partS ts j).length ≤ (partS ts k).length := by
  unfold partS
  obtain ⟨m, rfl⟩ := Nat.exists_eq_add_of_le h
  rw [List.take_add, List.map_append]
  exact inter_mono _ _
theorem joinS_part (ts : List Tok) {m : Nat} (h : ts.length = m + 1) : joinS ts = partS ts m := by
  unfold joinS partS
  rw [List.dropLast_eq_take, h]; rfl
theorem partS_le (ts : List Tok) (h : ∀ i (h : i < ts.length), ts[i].ok = true) (k : Nat) (hk : k ≤ 1000000) : (partS ts k).length ≤ 131000000 := by
  unfold partS
  have := inter_len ((ts.take k).map Tok.written) (fun x hx => by
    rw [List.mem_map] at hx
    obtain ⟨t, ht, rfl⟩ := hx
    obtain ⟨i, hi, rfl⟩ := List.mem_iff_getElem.1 (List.mem_of_mem_take ht)
    exact written_len (h i hi))
  rw [List.length_map, List.length_take] at this
  omega
theorem joinR_no {ts : List Tok} (h : valE ts = 8) : joinR ts = ([], 8) := by
  unfold joinR valE at *
  split at h
  · omega
  · rename_i hv; rw [if_neg hv]
theorem joinR_big {ts : List Tok} {m j : Nat} (h : valE ts = 0) (hm : ts.length = m + 1) (hj : j ≤ m) (hb : 65536 < (partS ts j).length) : joinR ts = ([], 2) := by
  unfold joinR valE at *
  split at h
  · rename_i hv
    rw [if_pos hv, joinS_part ts hm, if_pos]
    have := partS_mono ts hj
    omega
  · omega
theorem joinR_ok {ts : List Tok} {m : Nat} (h : valE ts = 0) (hm : ts.length = m + 1) (hb : ¬ 65536 < (partS ts m).length) : joinR ts = (partS ts m, 0) := by
  unfold joinR valE at *
  split at h
  · rename_i hv
    rw [if_pos hv, joinS_part ts hm, if_neg hb]
  · omega
theorem valE_cases (ts : List Tok) : valE ts = 8 ∨ (valE ts = 0 ∧ 0 < ts.length ∧ ∀ i (h : i < ts.length), ts[i].ok = true ∧ (ts[i].kind = 0 ↔ i = ts.length - 1)) := by
  unfold valE
  cases h : valT ts
  · left; rfl
  · right; exact ⟨rfl, (valT_iff ts).1 h⟩
end Go.Proofs.YtlfedcbihbigoaaGreatDoor

namespace Go.Proofs.YtlfedcbihbigoaaGreatDoor
open Go.RowKit
theorem index_cons (b : UInt8) (l : Bytes) : Lib.index (b :: l) [39] = if b = 39 then 0 else if Lib.index l [39] = -1 then -1 else Lib.index l [39] + 1 := by
  rw [Lib.index_one, Lib.index_one, Lib.indexByte]
  by_cases h : b = 39
  · subst h; simp
  · simp [h]
theorem replaceK_q : ∀ (s : Bytes) (k : Nat), s.count 39 ≤ k → Lib.replaceK [39] [39, 39] k s = s.flatMap qByte
  | [], 0, _ => rfl
  | [], k + 1, _ => by simp [Lib.replaceK, Lib.index]
  | b :: l, 0, h => by
    by_cases hb : b = 39
    · subst hb; simp at h
    · have hc : l.count 39 ≤ 0 := by rw [List.count_cons_of_ne (by simpa using hb)] at h; exact h
      have ih := replaceK_q l 0 hc
      rw [List.flatMap_cons, ← ih]
      have hq : qByte b = [b] := by unfold qByte; rw [if_neg (fun e => hb (UInt8.toNat_inj.1 (by rw [e]; rfl)))]
      rw [hq]; rfl
  | b :: l, k + 1, h => by
    by_cases hb : b = 39
    · subst hb
      have hc : l.count 39 ≤ k := by simp at h; exact h
      have ih := replaceK_q l k hc
      rw [Lib.replaceK_hit _ _ _ _ 0 (by rw [index_cons, if_pos rfl]; rfl), List.flatMap_cons, ← ih]
      rfl
    · have hc : l.count 39 ≤ k + 1 := by rw [List.count_cons_of_ne (by simpa using hb)] at h; exact h
      have ih := replaceK_q l (k + 1) hc
      have hq : qByte b = [b] := by unfold qByte; rw [if_neg (fun e => hb (UInt8.toNat_inj.1 (by rw [e]; rfl)))]
      rw [List.flatMap_cons, hq, ← ih]
      have hge := Lib.index_ge l [39]
      by_cases hm : Lib.index l [39] = -1
      · rw [Lib.replaceK, Lib.replaceK, index_cons, if_neg hb, if_pos hm, hm]; simp
      · obtain ⟨i, hi⟩ : ∃ i : Nat, Lib.index l [39] = i := ⟨(Lib.index l [39]).toNat, by omega⟩
        rw [Lib.replaceK_hit _ _ _ _ (i + 1) (by rw [index_cons, if_neg hb, if_neg hm, hi]; rfl), Lib.replaceK_hit _ _ _ _ i hi]
        show List.take (i + 1) (b :: l) ++ [39, 39] ++ Lib.replaceK [39] [39, 39] k (List.drop (i + 1 + 1) (b :: l)) = [b] ++ (List.take i l ++ [39, 39] ++ Lib.replaceK [39] [39, 39] k (List.drop (i + 1) l))
        simp
theorem replaceAll_q (s : Bytes) : Lib.replaceAll s [39] [39, 39] = s.flatMap qByte := by
  unfold Lib.replaceAll Lib.replace
  rw [if_neg (by decide)]
  refine replaceK_q s _ ?_
  unfold Lib.replaceNum
  rw [if_pos (.inl (by decide)), Lib.count_one]; exact Nat.le_refl _
structure GlobJ (w : World) : Prop where
  glob : Glob w
  len : ∃ m, w.cell? ⟨2, 0, none⟩ = some (.int .i64 m)
  tab : Lib.TabIs Tryz.prog w "internal/strconv.uint64pow10" .u64 Lib.pow10Tab
theorem gPow : Tryz.prog.globalNamed "internal/strconv.uint64pow10" = some 4 := by kernel_rfl
theorem var_lt {w : World} {n : String} {g : Nat} {cs : Array Value} (hg : Tryz.prog.globalNamed n = some g) (h : w.var? Tryz.prog n = some cs) (hs : 0 < cs.size) : g < w.heap.size := by
  have := World.var?_cell hg h 0
  rw [Array.getElem?_eq_getElem hs] at this
  exact World.block_lt_of_cell? w _ this
theorem GlobJ.below {w w' : World} (h : GlobJ w) (hb : Below w.heap.size w w') : GlobJ w' := by
  refine ⟨h.glob.below hb, ?_, ?_⟩
  · obtain ⟨m, hm⟩ := h.len
    exact ⟨m, by rw [hb.cell (p := ⟨2, 0, none⟩) (World.block_lt_of_cell? w _ hm)]; exact hm⟩
  · exact var?_below hb gPow (var_lt gPow h.tab (by decide)) h.tab
theorem replaceAll_any (s : ByteArray) (w : World) (hG : GlobJ w) (hs : s.size ≤ 100000) :
    Calls Tryz.prog 99 #[.string s, .string ⟨#[39]⟩, .string ⟨#[39, 39]⟩] w fun e w' => e = .returned (str ((bs s).flatMap qByte)) ∧ Below w.heap.size w w' := by
  obtain ⟨m, hm⟩ := hG.len
  have hc : Lib.countB s ⟨#[39]⟩ ≤ s.size := Lib.countB_le ⟨#[39]⟩ (by decide) s.size s (Nat.le_refl _)
  refine (Tryz.strings_ReplaceAll s ⟨#[39]⟩ ⟨#[39, 39]⟩ m w (by omega) hm (by decide) (by
    have : (⟨#[39, 39]⟩ : ByteArray).size = 2 := rfl
    rw [this]; omega)).mono fun e w' ⟨he, hb⟩ => ⟨?_, hb⟩
  rw [he]
  have := replaceAll_q (bs s)
  exact congrArg (fun l => Ending.returned (str l)) this
theorem grow_below (w : World) (k : Nat) (os : Array Obj) : Below w.heap.size w (Go.Sort.grow (w.drewN k) os) :=
  ⟨rfl, rfl, rfl, by simp [Go.Sort.grow, World.drewN], fun i hi => by
    show ((w.drewN k).heap ++ os)[i]? = _
    rw [Array.getElem?_append_left (by simpa [World.drewN] using hi)]
    rfl⟩
theorem itoa_any (n : Int) (w : World) (hG : GlobJ w) (h0 : 0 ≤ n) (h1 : n ≤ 1073741824) :
    Calls Tryz.prog 98 #[.int .i64 n] w fun e w' => e = .returned (str (Lib.decDigits n.toNat)) ∧ Below w.heap.size w w' := by
  refine (Tryz.strconv_Itoa n (by omega) (by omega) w hG.tab).mono fun e w' ⟨he, hb⟩ => ⟨?_, ?_⟩
  · rw [he]
    unfold Lib.itoa
    rw [if_neg (by omega)]
  · obtain ⟨k, os, rfl⟩ := hb
    exact grow_below w k os
end Go.Proofs.YtlfedcbihbigoaaGreatDoor

namespace Go.Proofs.YtlfedcbihbigoaaGreatDoor
open Go.RowKit
theorem Tryz.info_str : (Tryz.prog.info? 9).map (fun i => (i.zero, i.size, i.bytes)) = some (some (.string ⟨#[]⟩), 1, 16) := by kernel_rfl
noncomputable def textCells (ts : List Tok) (k : Nat) : List Value := (ts.take k).map fun t => str t.written
theorem textCells_succ (ts : List Tok) (k : Nat) (h : k < ts.length) : textCells ts (k + 1) = textCells ts k ++ [str ts[k].written] := by
  unfold textCells
  rw [List.take_succ_eq_append_getElem h, List.map_append]; rfl
theorem textCells_len (ts : List Tok) (k : Nat) (h : k ≤ ts.length) : (textCells ts k).length = k := by unfold textCells; simp; omega
set_option maxHeartbeats 4000000 in
theorem join_any (A : Option Addr) (c m : Nat) (ts : List Tok) (w : World) (base : Nat) (hm : m ≤ ts.length) (hm2 : m ≤ 1000000) (hown : w.ownsRow base 9 1 (.slice A m c) m (textCells ts m)) (hp : (partS ts m).length ≤ 131000000) :
    Calls Tryz.prog 69 #[.slice A m c, .string ⟨#[32]⟩] w fun e w' => e = .returned (str (partS ts m)) ∧ Below w.heap.size w w' := by
  by_cases h0 : m = 0
  · subst h0
    refine (Tryz.strings_Join_none A c ⟨#[32]⟩ w).mono fun e w' ⟨he, hw⟩ => ⟨he, hw ▸ Below.refl _ _⟩
  · rcases hown.2 with ⟨hv, hn⟩ | ⟨g, cap, cur, hv, hg, hh, hnc, hcap, hsz, htk⟩
    · omega
    · have hv' := hv
      injection hv with h1 h2 h3
      subst h1 h3
      have hcell : ∀ j, j < m → w.cell? ⟨g, j, none⟩ = (textCells ts m)[j]? := fun j hj => by
        have := World.ownsRow.cellAt hown j (by omega)
        exact this
      have hx : ((ts.take m).map fun t => (⟨t.written.toArray⟩ : ByteArray)).length = m := by simp; omega
      have hj : Lib.join (((ts.take m).map fun t => (⟨t.written.toArray⟩ : ByteArray)).map (·.data.toList)) [32] = partS ts m := by
        unfold partS Lib.join
        rw [List.map_map]; rfl
      have key := Tryz.strings_Join g 0 c ((ts.take m).map fun t => (⟨t.written.toArray⟩ : ByteArray)) ⟨#[32]⟩ w (fun j x hx => ?_) (lt_of_heap hh) (by omega) (by omega) (by
        show (Lib.join _ [32]).length ≤ _
        rw [hj]; omega)
      · rw [hx] at key
        refine key.mono fun e w' ⟨he, hb⟩ => ⟨?_, hb⟩
        rw [he]
        exact congrArg (fun l => Ending.returned (str l)) hj
      · have hjm : j < m := by
          have := (List.getElem?_eq_some_iff.1 hx).1
          simp at this; omega
        rw [Nat.zero_add, hcell j hjm]
        unfold textCells
        rw [List.getElem?_map] at hx ⊢
        cases ht : (ts.take m)[j]? with
        | none => rw [ht] at hx; simp at hx
        | some t => rw [ht] at hx; simp at hx; subst hx; rfl
def JoinRel (m : Nat) (ts : List Tok) (w wr : World) (v i : Value) : Prop := ∃ (k : Nat) (A : Option Addr) (c : Nat), v = .slice A k c ∧ i = .int .i64 k ∧ k ≤ m ∧ wr.ownsRow w.heap.size 9 1 (.slice A k c) k (textCells ts k) ∧ Below w.heap.size w wr
end Go.Proofs.YtlfedcbihbigoaaGreatDoor

namespace Go.Proofs.YtlfedcbihbigoaaGreatDoor
open Go.RowKit
theorem letB_word {c : UInt8} (h : letB c = true) : wordB c = true := by unfold wordB; rw [h]; rfl
theorem isNameB_iff {m : Nat} {l : Bytes} : isNameB m l = true ↔ l.length ≤ m ∧ (∃ c r, l = c :: r ∧ letB c = true) ∧ ∀ x ∈ l, wordB x = true := by
  unfold isNameB
  cases l with
  | nil => simp
  | cons c r =>
    simp only [Bool.and_eq_true, decide_eq_true_eq, List.all_eq_true]
    constructor
    · rintro ⟨h1, h2, h3⟩
      refine ⟨h1, ⟨c, r, rfl, h2⟩, fun x hx => ?_⟩
      rcases List.mem_cons.1 hx with rfl | hx
      · exact letB_word h2
      · exact h3 x hx
    · rintro ⟨h1, ⟨c', r', h2, h3⟩, h4⟩
      injection h2 with h5 h6
      subst h5 h6
      exact ⟨h1, h3, fun x hx => h4 x (List.mem_cons_of_mem _ hx)⟩
/-- What may stand behind a token of a joined text. -/
def stopL : Bytes := [32, 44, 41, 40, 59, 58, 124, 10]
def Stop (rest : Bytes) : Prop := rest = [] ∨ ∃ c r, rest = c :: r ∧ c ∈ stopL
theorem takeWhile_stop {p : UInt8 → Bool} {x rest : Bytes} (h : ∀ c ∈ x, p c = true) (hr : rest = [] ∨ ∃ c r, rest = c :: r ∧ p c = false) : (x ++ rest).takeWhile p = x := by
  rw [List.takeWhile_append_of_pos h]
  rcases hr with rfl | ⟨c, r, rfl, hc⟩
  · simp
  · rw [List.takeWhile_cons, hc]; simp
theorem Stop.no {p : UInt8 → Bool} {rest : Bytes} (h : Stop rest) (hp : ∀ c ∈ stopL, p c = false) : rest = [] ∨ ∃ c r, rest = c :: r ∧ p c = false := by
  rcases h with h | ⟨c, r, h, hc⟩
  · exact .inl h
  · exact .inr ⟨c, r, h, hp c hc⟩
theorem partL_app {x rest : Bytes} (h : ∀ c ∈ x, wordB c = true) (hr : rest = [] ∨ ∃ c r, rest = c :: r ∧ wordB c = false) : partL (x ++ rest) = x.length := by
  unfold partL; rw [takeWhile_stop h hr]
theorem dotB_stop {x rest : Bytes} (hr : Stop rest) : dotB (x ++ rest) x.length = false := by
  unfold dotB
  split
  · rename_i h
    rcases hr with rfl | ⟨c, r, rfl, hc⟩
    · simp at h; omega
    · have : (x ++ c :: r)[x.length]'(by simp) = c := by rw [List.getElem_append_right (Nat.le_refl _)]; simp
      have hd : ∀ c ∈ stopL, (c.toNat == 46) = false := by decide
      rw [this, hd c hc]; rfl
  · rfl
theorem word_46 {c : UInt8} (h : wordB c = true) : c.toNat ≠ 46 := by
  intro e
  have : c = 46 := UInt8.toNat_inj.1 (by rw [e]; rfl)
  subst this
  exact absurd h (by decide)
theorem dotL_word {x : Bytes} (h : ∀ c ∈ x, wordB c = true) : dotL x = x.length := by
  have := takeWhile_stop (p := fun c => c.toNat != 46) (x := x) (rest := []) (fun c hc => by have := word_46 (h c hc); simpa using this) (.inl rfl)
  rw [List.append_nil] at this
  unfold dotL; rw [this]
theorem dotL_app {a b : Bytes} (h : ∀ c ∈ a, wordB c = true) : dotL (a ++ 46 :: b) = a.length := by
  have := takeWhile_stop (p := fun c => c.toNat != 46) (x := a) (rest := 46 :: b) (fun c hc => by have := word_46 (h c hc); simpa using this) (.inr ⟨46, b, rfl, by decide⟩)
  unfold dotL; rw [this]
theorem isQualB_split {x : Bytes} (h : isQualB 24 x = true) : isNameB 24 x = true ∨ ∃ a b, x = a ++ 46 :: b ∧ isNameB 24 a = true ∧ isNameB 24 b = true := by
  unfold isQualB at h
  split at h
  · rename_i hd
    simp only [Bool.and_eq_true] at h
    refine .inr ⟨_, _, ?_, h.1, h.2⟩
    have h46 : x[dotL x] = 46 := UInt8.toNat_inj.1 (by rw [dotL_stop x hd]; rfl)
    conv => lhs; rw [← List.take_append_drop (dotL x) x, List.drop_eq_getElem_cons hd, h46]
  · exact .inl h
theorem isQualB_name {x : Bytes} (h : isNameB 24 x = true) : isQualB 24 x = true := by
  unfold isQualB
  rw [dotL_word (isNameB_iff.1 h).2.2, if_neg (Nat.lt_irrefl _)]; exact h
theorem isQualB_two {a b : Bytes} (h : isNameB 24 a = true) (h2 : isNameB 24 b = true) : isQualB 24 (a ++ 46 :: b) = true := by
  unfold isQualB
  rw [dotL_app (isNameB_iff.1 h).2.2, if_pos (by simp)]
  simp [h, h2]
theorem nameS_back {x rest : Bytes} (h : isQualB 24 x = true) (hr : Stop rest) : nameS (x ++ rest) = .ok (⟨1, x, 0, 0⟩, x.length) := by
  rcases isQualB_split h with h | ⟨a, b, rfl, ha, hb⟩
  · obtain ⟨h1, _, h3⟩ := isNameB_iff.1 h
    have hp : partL (x ++ rest) = x.length := partL_app h3 (hr.no (by decide))
    unfold nameS
    rw [hp, if_neg (by omega), dotB_stop hr, if_neg (by simp)]
    simp
  · obtain ⟨h1, _, h3⟩ := isNameB_iff.1 ha
    obtain ⟨k1, ⟨c, r, rfl, kc⟩, k3⟩ := isNameB_iff.1 hb
    have e : a ++ 46 :: (c :: r) ++ rest = a ++ (46 :: (c :: r ++ rest)) := by simp
    have hp : partL (a ++ 46 :: (c :: r) ++ rest) = a.length := by rw [e]; exact partL_app h3 (.inr ⟨46, _, rfl, by decide⟩)
    have hd : dotB (a ++ 46 :: (c :: r) ++ rest) a.length = true := by
      unfold dotB
      rw [dif_pos (by simp)]
      have e1 : (a ++ 46 :: (c :: r) ++ rest)[a.length]'(by simp) = 46 := by simp
      have e2 : (a ++ 46 :: (c :: r) ++ rest)[a.length + 1]'(by simp) = c := by simp
      rw [e1, e2, kc]; rfl
    have hq : (a ++ 46 :: (c :: r) ++ rest).drop (a.length + 1) = (c :: r) ++ rest := by rw [e]; simp
    unfold nameS
    rw [hp, if_neg (by omega), if_pos hd, hq, partL_app k3 (hr.no (by decide)), if_neg (by omega)]
    have hl : a.length + (1 + (c :: r).length) = (a ++ 46 :: (c :: r)).length := by simp; omega
    rw [hl, List.take_left]
/-! ### integers -/
theorem dig_of (k : Nat) (h : k < 10) : digB (UInt8.ofNat (48 + k)) = true ∧ ((UInt8.ofNat (48 + k)).toNat : Int) = 48 + k := by
  have : (UInt8.ofNat (48 + k)).toNat = 48 + k := UInt8.toNat_ofNat_of_lt' (by show _ < 256; omega)
  refine ⟨?_, by rw [this]; omega⟩
  unfold digB; rw [this]; simp; omega
theorem decDigits_all : ∀ (f u : Nat), u < f → ∀ c ∈ Lib.decDigits u, digB c = true
  | 0, u, h => by omega
  | f + 1, u, h => by
    intro c hc
    by_cases h10 : u < 10
    · rw [Lib.decDigits_one h10, List.mem_singleton] at hc
      subst hc; exact (dig_of u h10).1
    · rw [decDigits_rec u h10, List.mem_append, List.mem_singleton] at hc
      rcases hc with hc | rfl
      · exact decDigits_all f (u / 10) (by omega) c hc
      · exact (dig_of (u % 10) (by omega)).1
theorem decDigits_val : ∀ (f u : Nat), u < f → u ≤ 1073741824 → valS (Lib.decDigits u) = u
  | 0, u, h, _ => by omega
  | f + 1, u, h, hu => by
    by_cases h10 : u < 10
    · rw [Lib.decDigits_one h10]
      have := (dig_of u h10).2
      show min (10 * 0 + (((UInt8.ofNat (48 + u)).toNat : Int) - 48)) 1073741825 = u
      rw [this]; omega
    · rw [decDigits_rec u h10, valS_snoc, decDigits_val f (u / 10) (by omega) (by omega), (dig_of (u % 10) (by omega)).2]
      omega
theorem decDigits_head : ∀ (f u : Nat), u < f → 1 ≤ u → ∃ c r, Lib.decDigits u = c :: r ∧ c.toNat ≠ 48
  | 0, u, h, _ => by omega
  | f + 1, u, h, hu => by
    by_cases h10 : u < 10
    · refine ⟨_, [], Lib.decDigits_one h10, ?_⟩
      have := (dig_of u h10).2; omega
    · obtain ⟨c, r, e, hc⟩ := decDigits_head f (u / 10) (by omega) (by omega)
      exact ⟨c, r ++ [UInt8.ofNat (48 + u % 10)], by rw [decDigits_rec u h10, e]; rfl, hc⟩
theorem intS_back {n : Int} {rest : Bytes} (h0 : 0 ≤ n) (h1 : n ≤ 1073741824) (hr : Stop rest) : intS (Lib.decDigits n.toNat ++ rest) = .ok (⟨2, [], n, 0⟩, (Lib.decDigits n.toNat).length) := by
  have hd : digL (Lib.decDigits n.toNat ++ rest) = (Lib.decDigits n.toNat).length := by
    unfold digL; rw [takeWhile_stop (decDigits_all _ _ (Nat.lt_succ_self _)) (hr.no (by decide))]
  have hv := decDigits_val _ n.toNat (Nat.lt_succ_self _) (by omega)
  have ht : tailB (Lib.decDigits n.toNat ++ rest) (Lib.decDigits n.toNat).length = false := by
    unfold tailB
    split
    · rename_i h
      rcases hr with rfl | ⟨c, r, rfl, hc⟩
      · simp at h
      · have : (Lib.decDigits n.toNat ++ c :: r)[(Lib.decDigits n.toNat).length]'(by simp) = c := by rw [List.getElem_append_right (Nat.le_refl _)]; simp
        have hd : ∀ c ∈ stopL, (letB c || (c.toNat == 95)) = false := by decide
        rw [this, hd c hc]
    · rfl
  have hz : zeroB (Lib.decDigits n.toNat ++ rest) = false := by
    by_cases hn : n.toNat = 0
    · rw [hn] at hd ⊢
      unfold zeroB
      rw [show Lib.decDigits 0 = [48] from Lib.decDigits_one (by decide)] at hd ⊢
      show (((48 : UInt8).toNat == 48) && decide (1 < digL ([48] ++ rest))) = false
      rw [hd]; rfl
    · obtain ⟨c, r, e, hc⟩ := decDigits_head _ n.toNat (Nat.lt_succ_self _) (by omega)
      rw [e]
      unfold zeroB
      show ((c.toNat == 48) && _) = false
      simp [hc]
  rw [intS_eq, hd, hz, ht, if_neg (by simp), List.take_left, hv, if_neg (by omega)]
  rw [Int.toNat_of_nonneg h0]
/-! ### texts -/
theorem litGo_back (rest : Bytes) (hr : Stop rest) : ∀ x : Bytes, litGo (x.flatMap qByte ++ 39 :: rest) = some (x, (x.flatMap qByte).length + 1)
  | [] => by
    rcases hr with rfl | ⟨c, r, rfl, hc⟩
    · rfl
    · have hd : ∀ c ∈ stopL, c.toNat ≠ 39 := by decide
      simp [litGo, hd c hc]
  | c :: x => by
    have ih := litGo_back rest hr x
    rw [List.flatMap_cons]
    by_cases h : c.toNat = 39
    · have he : c = 39 := UInt8.toNat_inj.1 (by rw [h]; rfl)
      subst he
      have hq : qByte 39 = [39, 39] := rfl
      rw [hq]
      show litGo (39 :: 39 :: (x.flatMap qByte ++ 39 :: rest)) = _
      rw [litGo, if_pos (by decide), if_pos (by decide), ih]
      simp
    · have hq : qByte c = [c] := by unfold qByte; rw [if_neg h]
      rw [hq]
      show litGo (c :: (x.flatMap qByte ++ 39 :: rest)) = _
      rw [litGo_plain c _ h, ih]
      simp
theorem litS_back {x rest : Bytes} (h : x.length ≤ 64) (hr : Stop rest) : litS (quoteS x ++ rest) = .ok (⟨3, x, 0, 0⟩, (quoteS x).length) := by
  unfold litS quoteS
  have e : (39 :: (x.flatMap qByte ++ [39]) ++ rest).drop 1 = x.flatMap qByte ++ 39 :: rest := by simp
  rw [e, litGo_back rest hr x]
  show (if 64 < x.length then _ else _) = _
  rw [if_neg (by omega)]
  simp
/-! ### times -/
theorem time_parts {a b c d e : Bytes} (ha : a.length = 4) (hb : b.length = 2) (hc : c.length = 2) (hd : d.length = 2) (he : e.length = 2) (l : Bytes) (hl : l = a ++ [45] ++ b ++ [45] ++ c ++ [84] ++ d ++ [58] ++ e) :
    l.take 4 = a ∧ (l.take 7).drop 5 = b ∧ (l.take 10).drop 8 = c ∧ (l.take 13).drop 11 = d ∧ (l.take 16).drop 14 = e ∧ (allDig a = true → allDig b = true → allDig c = true → allDig d = true → allDig e = true → fitB timeForm l = true) := by
  subst hl
  match a, ha with
  | [a0, a1, a2, a3], _ =>
    match b, hb with
    | [b0, b1], _ =>
      match c, hc with
      | [c0, c1], _ =>
        match d, hd with
        | [d0, d1], _ =>
          match e, he with
          | [e0, e1], _ =>
            refine ⟨rfl, rfl, rfl, rfl, rfl, fun h1 h2 h3 h4 h5 => ?_⟩
            simp [allDig] at h1 h2 h3 h4 h5
            simp [timeForm, fitB, h1, h2, h3, h4, h5]
theorem digK_all : ∀ (k : Nat) (n : Int), allDig (digK k n) = true
  | 0, _ => rfl
  | k + 1, n => by
    have := digK_all k (n / 10)
    unfold allDig at *
    rw [digK, List.all_append, this]
    rw [Bool.true_and, List.all_cons, (dig_of (n % 10).toNat (by omega)).1]; rfl
theorem digK_num : ∀ (k : Nat) (n : Int), 0 ≤ n → n < 10 ^ k → numS (digK k n) = n
  | 0, n, h0, h1 => by
    have : n = 0 := by simp at h1; omega
    subst this; rfl
  | k + 1, n, h0, h1 => by
    rw [digK, numS_snoc, digK_num k (n / 10) (by omega) (by rw [Int.pow_succ] at h1; omega), (dig_of (n % 10).toNat (by omega)).2]
    omega
theorem timeS_back {n : Int} (h0 : 0 ≤ n) (h1 : n ≤ 575999999) : timeS (fmtS n) = .ok n := by
  obtain ⟨k, j, d, g⟩ := GoodN_exists (n := n / 1440) (by omega) (by omega)
  rw [fmtS_eq ⟨k, j, d, g, rfl⟩]
  obtain ⟨p1, p2, p3, p4, p5, p6⟩ := time_parts (digK_len 4 (1970 + k)) (digK_len 2 (1 + j)) (digK_len 2 d) (digK_len 2 (n / 60 % 24)) (digK_len 2 (n % 60)) _ rfl
  have p6 := p6 (digK_all _ _) (digK_all _ _) (digK_all _ _) (digK_all _ _) (digK_all _ _)
  obtain ⟨g1, g2, g3, g4, g5⟩ := g
  have g6 := (lenM_bd (1970 + k) (1 + j)).2
  unfold timeS
  rw [p1, p2, p3, p4, p5, p6, digK_num 4 _ (by omega) (by omega), digK_num 2 _ (by omega) (by omega), digK_num 2 _ (by omega) (by omega), digK_num 2 _ (by omega) (by omega), digK_num 2 _ (by omega) (by omega)]
  have hdays : daysS (1970 + k) (1 + j) d = some (n / 1440) := by
    have hn : dayN (1970 + k) (1 + j) d = n / 1440 := by
      unfold dayN
      rw [show ((1970 : Int) + k - 1970).toNat = k by omega, show ((1 : Int) + j - 1).toNat = j by omega]
      exact g5
    unfold daysS
    rw [if_pos, hn, if_neg (by omega)]
    unfold dateB
    simp; omega
  rw [hdays, if_neg (by simp)]
  show (if _ then _ else _) = _
  rw [if_neg (by omega)]
  congr 1; omega
theorem atS_back {n : Int} {rest : Bytes} (h0 : 0 ≤ n) (h1 : n ≤ 575999999) : atS (64 :: fmtS n ++ rest) = .ok (⟨4, [], n, 0⟩, (64 :: fmtS n).length) := by
  have hl := fmtS_len h0 h1
  unfold atS
  have e : ((64 :: fmtS n ++ rest).take 17).drop 1 = fmtS n := by
    rw [List.cons_append, List.take_succ_cons, List.drop_succ_cons, List.drop_zero, List.take_left' hl]
  rw [if_neg (by simp [hl]), e, timeS_back h0 h1]
  simp [hl]
/-! ### symbols -/
theorem symS_back {x rest : Bytes} (h : symB x = true) (hr : Stop rest) : symS (x ++ rest) = .ok (⟨5, x, 0, 0⟩, x.length) := by
  unfold symB at h
  rw [List.contains_iff_mem] at h
  rcases hr with rfl | ⟨c, r, rfl, hc⟩
  · rw [List.append_nil]
    have : ∀ x ∈ symbolsS, symbolsS.find? (fun y => y.isPrefixOf x) = some x := by decide
    unfold symS; rw [this x h]
  · unfold symS
    have : symbolsS.find? (fun y => y.isPrefixOf (x ++ c :: r)) = some x := by
      have hd : ∀ c ∈ stopL, (43 == c) = false ∧ (61 == c) = false := by decide
      obtain ⟨d1, d2⟩ := hd c hc
      clear hc
      simp only [symbolsS, List.mem_cons, List.not_mem_nil, or_false] at h
      rcases h with rfl | rfl | rfl | rfl | rfl | rfl | rfl | rfl | rfl | rfl | rfl | rfl | rfl | rfl | rfl | rfl | rfl | rfl <;> simp [symbolsS, List.find?, List.isPrefixOf, d1, d2]
    rw [this]
/-! ### one token -/
def blackB (c : UInt8) : Prop := blankB c = false ∧ c.toNat ≠ 35
theorem letB_black {c : UInt8} (h : letB c = true) : blackB c := by
  unfold letB at h
  simp at h
  refine ⟨?_, by omega⟩
  unfold blankB; simp; omega
theorem digB_black {c : UInt8} (h : digB c = true) : blackB c ∧ letB c = false := by
  unfold digB at h
  simp at h
  refine ⟨⟨?_, by omega⟩, ?_⟩
  · unfold blankB; simp; omega
  · unfold letB; simp; omega
theorem oneS_cons (c : UInt8) (r : Bytes) : oneS (c :: r) = if letB c = true then nameS (c :: r) else if digB c = true then intS (c :: r) else if c.toNat = 39 then litS (c :: r) else if c.toNat = 64 then atS (c :: r) else symS (c :: r) := rfl
theorem one_back {t : Tok} {rest : Bytes} (h : t.ok = true) (hk : t.kind ≠ 0) (hr : Stop rest) :
    oneS (t.written ++ rest) = .ok (⟨t.kind, t.text, t.num, 0⟩, t.written.length) ∧ ∃ c r, t.written = c :: r ∧ blackB c := by
  obtain ⟨k, x, n, o⟩ := t
  have h' : okTok k x n = true := h
  show oneS (writtenS k x n ++ rest) = .ok (⟨k, x, n, 0⟩, (writtenS k x n).length) ∧ ∃ c r, writtenS k x n = c :: r ∧ blackB c
  rcases okTok_cases h' with ⟨rfl, _, _⟩ | ⟨rfl, h2, rfl⟩ | ⟨rfl, rfl, h3, h4⟩ | ⟨rfl, h2, rfl⟩ | ⟨rfl, rfl, h3, h4⟩ | ⟨rfl, h2, rfl⟩
  · exact absurd rfl hk
  · have hw : writtenS 1 x 0 = x := rfl
    rw [hw]
    have hx : ∃ c r, x = c :: r ∧ letB c = true := by
      rcases isQualB_split h2 with h | ⟨a, b, rfl, ha, hb⟩
      · exact (isNameB_iff.1 h).2.1
      · obtain ⟨c, r, rfl, hc⟩ := (isNameB_iff.1 ha).2.1
        exact ⟨c, r ++ 46 :: b, rfl, hc⟩
    have hn := nameS_back h2 hr
    obtain ⟨c, r, rfl, hc⟩ := hx
    refine ⟨?_, c, r, rfl, letB_black hc⟩
    rw [List.cons_append, oneS_cons]
    rw [List.cons_append] at hn
    rw [if_pos hc, hn]
  · have hw : writtenS 2 [] n = Lib.decDigits n.toNat := rfl
    rw [hw]
    have hn := intS_back h3 h4 hr
    have hall := decDigits_all _ n.toNat (Nat.lt_succ_self _)
    cases hd : Lib.decDigits n.toNat with
    | nil =>
      exfalso
      by_cases h10 : n.toNat < 10
      · rw [Lib.decDigits_one h10] at hd; cases hd
      · rw [decDigits_rec _ h10] at hd; simp at hd
    | cons c r =>
      rw [hd] at hn hall
      obtain ⟨b1, b2⟩ := digB_black (hall c (by simp))
      refine ⟨?_, c, r, rfl, b1⟩
      rw [List.cons_append, oneS_cons]
      rw [List.cons_append] at hn
      rw [if_neg (by rw [b2]; simp), if_pos (hall c (by simp)), hn]
  · have hw : writtenS 3 x 0 = quoteS x := rfl
    rw [hw]
    refine ⟨?_, 39, x.flatMap qByte ++ [39], rfl, ⟨by decide, by decide⟩⟩
    have hn := litS_back h2 hr
    rw [show quoteS x ++ rest = 39 :: (x.flatMap qByte ++ [39] ++ rest) from rfl, oneS_cons, if_neg (by decide), if_neg (by decide), if_pos (by decide)]
    exact hn
  · have hw : writtenS 4 [] n = 64 :: fmtS n := rfl
    rw [hw]
    refine ⟨?_, 64, fmtS n, rfl, ⟨by decide, by decide⟩⟩
    have hn := atS_back (rest := rest) h3 h4
    rw [show 64 :: fmtS n ++ rest = 64 :: (fmtS n ++ rest) from rfl, oneS_cons, if_neg (by decide), if_neg (by decide), if_neg (by decide), if_pos (by decide)]
    exact hn
  · have hw : writtenS 5 x 0 = x := rfl
    rw [hw]
    have hn := symS_back h2 hr
    have hc : ∀ x ∈ symbolsS, ∃ c r, x = c :: r ∧ (letB c = false ∧ digB c = false ∧ c.toNat ≠ 39 ∧ c.toNat ≠ 64 ∧ blankB c = false ∧ c.toNat ≠ 35) := by
      intro x hx
      simp only [symbolsS, List.mem_cons, List.not_mem_nil, or_false] at hx
      rcases hx with rfl | rfl | rfl | rfl | rfl | rfl | rfl | rfl | rfl | rfl | rfl | rfl | rfl | rfl | rfl | rfl | rfl | rfl <;> exact ⟨_, _, rfl, by decide⟩
    obtain ⟨c, r, rfl, c1, c2, c3, c4, c5, c6⟩ := hc x (by unfold symB at h2; rwa [List.contains_iff_mem] at h2)
    refine ⟨?_, c, r, rfl, c5, c6⟩
    rw [List.cons_append, oneS_cons]
    rw [List.cons_append] at hn
    rw [if_neg (by rw [c1]; simp), if_neg (by rw [c2]; simp), if_neg c3, if_neg c4, hn]
/-! ### all tokens -/
def laidT : List Tok → Nat → Nat → List Tok
  | [], _, i => [⟨0, [], 0, i⟩]
  | t :: ts, w, i => { t with off := i } :: laidT ts w i
theorem inter_cons (w : Bytes) (l : List Bytes) : List.intercalate [32] (w :: l) = w ++ (if l = [] then [] else 32 :: List.intercalate [32] l) := by
  cases l with
  | nil => simp [List.intercalate]
  | cons a l => simp [List.intercalate, List.intersperse]
theorem split_back : ∀ (us : List Tok) (i f : Nat), (∀ t ∈ us, t.ok = true ∧ t.kind ≠ 0) → (List.intercalate [32] (us.map Tok.written)).length ≤ f →
    ∃ zs, splitGo f (List.intercalate [32] (us.map Tok.written)) i = .ok zs ∧ sameL zs (us ++ [tok0]) = true
  | [], i, f, _, _ => by
    cases f with
    | zero => exact ⟨_, rfl, rfl⟩
    | succ f => exact ⟨_, rfl, rfl⟩
  | t :: us, i, f, hall, hf => by
    obtain ⟨h1, h2⟩ := hall t (by simp)
    rw [List.map_cons, inter_cons] at hf ⊢
    have hstop : Stop (if us.map Tok.written = [] then [] else 32 :: List.intercalate [32] (us.map Tok.written)) := by
      split
      · exact .inl rfl
      · exact .inr ⟨32, _, rfl, by decide⟩
    generalize hrest : (if us.map Tok.written = [] then [] else 32 :: List.intercalate [32] (us.map Tok.written)) = rest at *
    obtain ⟨ho, c, r, hw, hb⟩ := one_back h1 h2 hstop
    obtain ⟨g, rfl⟩ : ∃ g, f = g + 1 := ⟨f - 1, by rw [hw] at hf; simp at hf; omega⟩
    have key : ∃ zs, splitGo g rest (i + t.written.length) = .ok zs ∧ sameL zs (us ++ [tok0]) = true := by
      cases us with
      | nil =>
        have : rest = [] := by rw [← hrest]; rfl
        subst this
        cases g with
        | zero => exact ⟨_, rfl, rfl⟩
        | succ g => exact ⟨_, rfl, rfl⟩
      | cons u us =>
        have hr2 : rest = 32 :: List.intercalate [32] ((u :: us).map Tok.written) := by rw [← hrest]; rfl
        rw [hr2] at hf ⊢
        have hg : 1 + (List.intercalate [32] ((u :: us).map Tok.written)).length ≤ g := by
          rw [hw] at hf
          simp only [List.length_append, List.length_cons] at hf ⊢
          omega
        obtain ⟨g2, rfl⟩ : ∃ g2, g = g2 + 1 := ⟨g - 1, by omega⟩
        obtain ⟨zs, hz1, hz2⟩ := split_back (u :: us) (i + t.written.length + 1) g2 (fun t ht => hall t (List.mem_cons_of_mem _ ht)) (by omega)
        exact ⟨zs, by rw [splitGo_cons, if_pos (by decide)]; exact hz1, hz2⟩
    obtain ⟨zs, hz1, hz2⟩ := key
    refine ⟨{ (⟨t.kind, t.text, t.num, 0⟩ : Tok) with off := i } :: zs, ?_, ?_⟩
    · rw [hw] at ho ⊢
      rw [List.cons_append, splitGo_cons, if_neg (by rw [hb.1]; simp), if_neg hb.2]
      rw [List.cons_append] at ho
      rw [ho]
      show (match splitGo g ((c :: (r ++ rest)).drop (c :: r).length) (i + (c :: r).length) with | .error e => _ | .ok ts => _) = _
      rw [← List.cons_append, List.drop_left, ← hw, hz1]
    · simp [sameL, sameT, hz2]
theorem splitS_back {ts : List Tok} (h : valT ts = true) (hl : (joinS ts).length ≤ 65536) : ∃ zs, splitS (joinS ts) = .ok zs ∧ sameL zs ts = true := by
  obtain ⟨h0, hall⟩ := (valT_iff ts).1 h
  obtain ⟨us, u, rfl⟩ : ∃ us u, ts = us ++ [u] := ⟨ts.dropLast, ts.getLast (fun e => by subst e; simp at h0), (List.dropLast_concat_getLast _).symm⟩
  have hj : joinS (us ++ [u]) = List.intercalate [32] (us.map Tok.written) := by unfold joinS; rw [List.dropLast_concat]
  have hu : ∀ t ∈ us, t.ok = true ∧ t.kind ≠ 0 := by
    intro t ht
    obtain ⟨i, hi, rfl⟩ := List.mem_iff_getElem.1 ht
    have := hall i (by simp; omega)
    rw [List.getElem_append_left hi] at this
    refine ⟨this.1, fun e => ?_⟩
    have := this.2.1 e
    simp at this; omega
  have hlast := hall us.length (by simp)
  rw [List.getElem_append_right (Nat.le_refl _)] at hlast
  simp at hlast
  have hok : okTok u.kind u.text u.num = true := hlast.1
  rw [hlast.2, okTok_0] at hok
  simp at hok
  obtain ⟨zs, hz1, hz2⟩ := split_back us 0 (joinS (us ++ [u])).length hu (by rw [hj]; exact Nat.le_refl _)
  refine ⟨zs, ?_, ?_⟩
  · unfold splitS
    rw [if_neg (by omega)]
    rw [← hj] at hz1
    exact hz1
  · have : ∀ (zs us : List Tok) (u v : Tok), sameT u v = true → sameL zs (us ++ [v]) = true → sameL zs (us ++ [u]) = true := by
      intro zs us u v huv
      induction us generalizing zs with
      | nil =>
        intro h
        match zs, h with
        | [z], h =>
          simp [sameL, sameT] at h huv ⊢
          obtain ⟨⟨a, b⟩, c⟩ := huv
          rw [a, b, c]; exact h
        | [], h => cases h
        | _ :: _ :: _, h => simp [sameL] at h
      | cons w us ih =>
        intro h
        match zs, h with
        | z :: zs, h =>
          simp only [List.cons_append, sameL, Bool.and_eq_true] at h ⊢
          exact ⟨h.1, ih zs h.2⟩
        | [], h => cases h
    refine this zs us u tok0 ?_ hz2
    simp [sameT, tok0, hlast.2, hok]
end Go.Proofs.YtlfedcbihbigoaaGreatDoor

namespace Go.Proofs.YtlfedcbihbigoaaGreatDoor
open Go.RowKit
def Fine (t : Tok) : Prop := t.ok = true ∧ t.kind ≠ 0
theorem isNameB_take {l : Bytes} {n : Nat} (hn : n ≤ partL l) (h1 : 1 ≤ n) (h2 : n ≤ 24) (hh : ∃ c r, l = c :: r ∧ letB c = true) : isNameB 24 (l.take n) = true := by
  refine isNameB_iff.2 ⟨by rw [List.length_take]; omega, ?_, fun x hx => ?_⟩
  · obtain ⟨c, r, rfl, hc⟩ := hh
    obtain ⟨m, rfl⟩ : ∃ m, n = m + 1 := ⟨n - 1, by omega⟩
    exact ⟨c, r.take m, rfl, hc⟩
  · obtain ⟨i, hi, rfl⟩ := List.mem_iff_getElem.1 hx
    rw [List.length_take] at hi
    obtain ⟨h3, h4⟩ := partL_lt l i (by omega)
    rw [List.getElem_take]; exact h4
theorem nameS_fine {c : UInt8} {r : Bytes} {t : Tok} {n : Nat} (hc : letB c = true) (h : nameS (c :: r) = .ok (t, n)) : Fine t := by
  have hp := partL_pos (r := r) hc
  have hl := partL_le (c :: r)
  unfold nameS at h
  generalize hlst : c :: r = l at *
  have hh : ∃ c r, l = c :: r ∧ letB c = true := ⟨c, r, hlst.symm, hc⟩
  split at h
  · cases h
  rename_i h24
  split at h
  · rename_i hd
    split at h
    · cases h
    rename_i hk
    injection h with h
    injection h with h3 h4
    subst h3
    refine ⟨?_, by simp⟩
    show okTok 1 _ 0 = true
    rw [okTok_1, show ((0 : Int) == 0) = true from rfl, Bool.and_true]
    unfold dotB at hd
    split at hd
    · rename_i hlt
      simp only [Bool.and_eq_true, beq_iff_eq] at hd
      have e46 : l[partL l] = 46 := UInt8.toNat_inj.1 (by rw [hd.1]; rfl)
      have hdr : l.drop (partL l) = 46 :: l.drop (partL l + 1) := by rw [List.drop_eq_getElem_cons (by omega), e46]
      have e : l.take (partL l + (1 + partL (l.drop (partL l + 1)))) = l.take (partL l) ++ 46 :: (l.drop (partL l + 1)).take (partL (l.drop (partL l + 1))) := by
        rw [List.take_add, hdr, Nat.add_comm 1, List.take_succ_cons]
      rw [e]
      have hhead : ∃ c r, l.drop (partL l + 1) = c :: r ∧ letB c = true := ⟨l[partL l + 1], l.drop (partL l + 1 + 1), List.drop_eq_getElem_cons hlt, hd.2⟩
      refine isQualB_two (isNameB_take (Nat.le_refl _) hp (by omega) hh) (isNameB_take (Nat.le_refl _) ?_ (by omega) hhead)
      obtain ⟨c2, r2, e2, hc2⟩ := hhead
      rw [e2]; exact partL_pos hc2
    · cases hd
  · injection h with h
    injection h with h3 h4
    subst h3
    refine ⟨?_, by simp⟩
    show okTok 1 _ 0 = true
    rw [okTok_1, show ((0 : Int) == 0) = true from rfl, Bool.and_true]
    exact isQualB_name (isNameB_take (Nat.le_refl _) hp (by omega) hh)
theorem intS_fine {l : Bytes} {t : Tok} {n : Nat} (h : intS l = .ok (t, n)) : Fine t := by
  rw [intS_eq] at h
  split at h
  · cases h
  split at h
  · cases h
  rename_i hv
  injection h with h
  injection h with h3 h4
  subst h3
  have hb := valS_bd ⟨l.toArray⟩ (digL l) (Nat.le_refl _)
  rw [bs_mk] at hb
  refine ⟨?_, by simp⟩
  show okTok 2 [] (valS (l.take (digL l))) = true
  rw [okTok_2]
  simp; omega
theorem litS_fine {l : Bytes} {t : Tok} {n : Nat} (h : litS l = .ok (t, n)) : Fine t := by
  unfold litS at h
  split at h
  · cases h
  · split at h
    · cases h
    · rename_i hl
      injection h with h
      injection h with h3 h4
      subst h3
      refine ⟨?_, by simp⟩
      show okTok 3 _ 0 = true
      rw [okTok_3]
      simp; omega
theorem timeS_fine {l : Bytes} {m : Int} (h : timeS l = .ok m) : 0 ≤ m ∧ m ≤ 575999999 := by
  have hm : bs ⟨l.toArray⟩ = l := rfl
  have he := timeS_eq ⟨l.toArray⟩
  rw [hm] at he
  unfold timeS at h
  split at h
  · cases h
  rename_i hf
  have hf' : fitB timeForm (bs ⟨l.toArray⟩) = true := by rw [hm]; simpa using hf
  obtain ⟨p1, p2, p3, p4, p5⟩ := pieces hf'
  rw [bs_extract, hm] at p4 p5
  split at h
  · cases h
  rename_i n hn
  have hd := dayN_bd hn
  split at h
  · cases h
  rename_i hr
  injection h with h
  have q4 := numS_bd2 _ p4 (by simp; omega)
  have q5 := numS_bd2 _ p5 (by simp; omega)
  omega
theorem atS_fine {l : Bytes} {t : Tok} {n : Nat} (h : atS l = .ok (t, n)) : Fine t := by
  unfold atS at h
  split at h
  · cases h
  split at h
  · cases h
  · rename_i m hm
    injection h with h
    injection h with h3 h4
    subst h3
    obtain ⟨h0, h1⟩ := timeS_fine hm
    refine ⟨?_, by simp⟩
    show okTok 4 [] m = true
    rw [okTok_4]
    simp; omega
theorem symS_fine {l : Bytes} {t : Tok} {n : Nat} (h : symS l = .ok (t, n)) : Fine t := by
  unfold symS at h
  split at h
  · rename_i x hx
    injection h with h
    injection h with h3 h4
    subst h3
    refine ⟨?_, by simp⟩
    show okTok 5 x 0 = true
    rw [okTok_5]
    have : symB x = true := by unfold symB; rw [List.contains_iff_mem]; exact List.mem_of_find?_eq_some hx
    rw [this]; rfl
  · cases h
theorem oneS_fine {c : UInt8} {r : Bytes} {t : Tok} {n : Nat} (h : oneS (c :: r) = .ok (t, n)) : Fine t := by
  rw [oneS_cons] at h
  split at h
  · rename_i hc; exact nameS_fine hc h
  split at h
  · exact intS_fine h
  split at h
  · exact litS_fine h
  split at h
  · exact atS_fine h
  · exact symS_fine h
theorem splitGo_fine : ∀ (f : Nat) (l : Bytes) (i : Nat) (ts : List Tok), splitGo f l i = .ok ts → valT ts = true
  | 0, l, i, ts, h => by injection h with h; subst h; rfl
  | f + 1, [], i, ts, h => by injection h with h; subst h; rfl
  | f + 1, c :: r, i, ts, h => by
    rw [splitGo_cons] at h
    split at h
    · exact splitGo_fine f _ _ _ h
    · split at h
      · exact splitGo_fine f _ _ _ h
      · split at h
        · cases h
        · rename_i t n ho
          split at h
          · cases h
          · rename_i ts' hg
            injection h with h
            subst h
            have ih := splitGo_fine f _ _ _ hg
            obtain ⟨h1, h2⟩ := oneS_fine ho
            cases ts' with
            | nil => cases ih
            | cons u us =>
              have h1' : ({ t with off := i } : Tok).ok = true := h1
              simp [valT, h1', h2, ih]
theorem splitS_fine {l : Bytes} {ts : List Tok} (h : splitS l = .ok ts) : valT ts = true := by
  unfold splitS at h
  split at h
  · cases h
  · exact splitGo_fine _ _ _ _ h
theorem splitS_len {l : Bytes} {ts : List Tok} (h : splitS l = .ok ts) : ts.length ≤ l.length + 1 := by
  unfold splitS at h
  split at h
  · cases h
  · exact splitGo_count _ _ _ _ h
theorem joinS_short {ts : List Tok} {m : Nat} (h : valT ts = true) (hm : ts.length ≤ m + 1) : (joinS ts).length ≤ 131 * m := by
  unfold joinS
  have := inter_len (ts.dropLast.map Tok.written) (fun x hx => by
    rw [List.mem_map] at hx
    obtain ⟨t, ht, rfl⟩ := hx
    obtain ⟨i, hi, rfl⟩ := List.mem_iff_getElem.1 (List.dropLast_subset _ ht)
    exact written_len (((valT_iff ts).1 h).2 i hi).1)
  rw [List.length_map, List.length_dropLast] at this
  have h3 : 131 * (ts.length - 1) ≤ 131 * m := Nat.mul_le_mul_left _ (by omega)
  omega
theorem joinR_fine {ts : List Tok} (h : valT ts = true) (hl : (joinS ts).length ≤ 65536) : joinR ts = (joinS ts, 0) := by
  unfold joinR
  rw [if_pos h, if_neg (by omega)]
theorem joinR_bad {ts : List Tok} (h : valT ts = false) : joinR ts = ([], 8) := by
  unfold joinR
  rw [if_neg (by rw [h]; simp)]
theorem sameL_comm : ∀ l m : List Tok, sameL l m = sameL m l
  | [], [] => rfl
  | [], _ :: _ => rfl
  | _ :: _, [] => rfl
  | a :: l, b :: m => by
    simp only [sameL, sameT]
    rw [sameL_comm l m, Bool.beq_comm (a := a.kind), Bool.beq_comm (a := a.num), Bool.beq_comm (a := a.text)]
theorem timeS_err {l : Bytes} {e : Int} (h : timeS l = .error e) : e ≠ 0 := by
  unfold timeS at h
  split at h
  · injection h with h; subst h; decide
  split at h
  · injection h with h; subst h; decide
  split at h
  · injection h with h; subst h; decide
  · cases h
theorem oneS_err {l : Bytes} {e : Int} (h : oneS l = .error e) : e ≠ 0 := by
  cases l with
  | nil => injection h with h; subst h; decide
  | cons c r =>
    rw [oneS_cons] at h
    split at h
    · unfold nameS at h
      split at h
      · injection h with h; subst h; decide
      split at h
      · split at h
        · injection h with h; subst h; decide
        · cases h
      · cases h
    split at h
    · rw [intS_eq] at h
      split at h
      · injection h with h; subst h; decide
      split at h
      · injection h with h; subst h; decide
      · cases h
    split at h
    · unfold litS at h
      split at h
      · injection h with h; subst h; decide
      · split at h
        · injection h with h; subst h; decide
        · cases h
    split at h
    · unfold atS at h
      split at h
      · injection h with h; subst h; decide
      split at h
      · rename_i e2 he
        injection h with h; subst h; exact timeS_err he
      · cases h
    · unfold symS at h
      split at h
      · cases h
      · injection h with h; subst h; decide
theorem splitGo_err : ∀ (f : Nat) (l : Bytes) (i : Nat) (x : Nat × Int), splitGo f l i = .error x → x.2 ≠ 0
  | 0, l, i, x, h => by cases h
  | f + 1, [], i, x, h => by cases h
  | f + 1, c :: r, i, x, h => by
    rw [splitGo_cons] at h
    split at h
    · exact splitGo_err f _ _ _ h
    · split at h
      · exact splitGo_err f _ _ _ h
      · split at h
        · rename_i e he
          injection h with h
          subst h
          exact oneS_err he
        · split at h
          · rename_i y hy
            injection h with h
            subst h
            exact splitGo_err f _ _ _ hy
          · cases h
theorem splitS_err {l : Bytes} {x : Nat × Int} (h : splitS l = .error x) : x.2 ≠ 0 := by
  unfold splitS at h
  split at h
  · injection h with h; subst h; decide
  · exact splitGo_err _ _ _ _ h
end Go.Proofs.YtlfedcbihbigoaaGreatDoor
