/- Plain: the text of a list of tokens. Contracts: ref7.written, ref7.Join. Plain: replacing each apostrophe by two; what token.Join asks of the world. -/
import Derived.Test.YtajcddaahmbllaaDoorValF
import Derived.Test.YtajcddaahmbllaaDoorDigB
import Derived.Test.YtajcddaahmbllaaDoorPutA
import Derived.Test.YtajcddaahmbllaaDoorShelf
set_option linter.unusedVariables false
set_option linter.unusedSimpArgs false
namespace Go.Proofs.YtajcddaahmbllaaDoor
open Go.RowKit
noncomputable def writtenS (k : Int) (x : Bytes) (n : Int) : Bytes := if k = 2 then Lib.decDigits n.toNat else if k = 3 then quoteS x else if k = 4 then 64 :: fmtS n else x
noncomputable def Tok.written (t : Tok) : Bytes := writtenS t.kind t.text t.num
noncomputable def joinS (ts : List Tok) : Bytes := List.intercalate [32] (ts.dropLast.map Tok.written)
noncomputable def joinR (ts : List Tok) : Bytes × Int := if valT ts = true then (if 65536 < (joinS ts).length then ([], 2) else (joinS ts, 0)) else ([], 8)
theorem isNameB_len {m : Nat} {l : Bytes} (h : isNameB m l = true) : l.length ≤ m := by
  unfold isNameB at h
  simp at h
  exact h.1
theorem isQualB_len {l : Bytes} (h : isQualB 24 l = true) : l.length ≤ 49 := by
  unfold isQualB at h
  split at h
  · simp at h
    have h1 := isNameB_len h.1
    have h2 := isNameB_len h.2
    rw [List.length_take] at h1
    rw [List.length_drop] at h2
    omega
  · have := isNameB_len h; omega
theorem okTok_cases {k n : Int} {x : Bytes} (h : okTok k x n = true) : (k = 0 ∧ x = [] ∧ n = 0) ∨ (k = 1 ∧ isQualB 24 x = true ∧ n = 0) ∨ (k = 2 ∧ x = [] ∧ 0 ≤ n ∧ n ≤ 1073741824) ∨ (k = 3 ∧ x.length ≤ 64 ∧ n = 0) ∨ (k = 4 ∧ x = [] ∧ 0 ≤ n ∧ n ≤ 575999999) ∨ (k = 5 ∧ symB x = true ∧ n = 0) := by
  unfold okTok at h
  split at h
  · simp_all
  split at h
  · simp_all
  split at h
  · simp_all
  split at h
  · simp_all
  split at h
  · simp_all
  split at h
  · simp_all
  · cases h
theorem symB_len {x : Bytes} (h : symB x = true) : x.length ≤ 2 ∧ x ≠ [] := by
  unfold symB at h
  rw [List.contains_iff_mem] at h
  have : ∀ x ∈ symbolsS, x.length ≤ 2 ∧ x ≠ [] := by decide
  exact this x h
theorem okTok_len {k n : Int} {x : Bytes} (h : okTok k x n = true) : x.length ≤ 64 := by
  rcases okTok_cases h with ⟨_, rfl, _⟩ | ⟨_, h2, _⟩ | ⟨_, rfl, _⟩ | ⟨_, h2, _⟩ | ⟨_, rfl, _⟩ | ⟨_, h2, _⟩
  · simp
  · have := isQualB_len h2; omega
  · simp
  · exact h2
  · simp
  · have := (symB_len h2).1; omega
theorem decDigits_le {n : Nat} (h : n ≤ 1073741824) : (Lib.decDigits n).length ≤ 100 := by
  have : ∀ (f u : Nat), u < 10 ^ (f + 1) → (Lib.decDigits u).length ≤ f + 1
    := by
    intro f
    induction f with
    | zero => intro u hu; rw [Lib.decDigits_one (by omega)]; simp
    | succ f ih =>
      intro u hu
      by_cases h10 : u < 10
      · rw [Lib.decDigits_one h10]; simp
      · rw [decDigits_rec u h10, List.length_append]
        have := ih (u / 10) (by rw [Nat.pow_succ] at hu; omega)
        simp; omega
  have := this 9 n (by omega)
  omega
theorem written_len {k n : Int} {x : Bytes} (h : okTok k x n = true) : (writtenS k x n).length ≤ 130 := by
  have hl := okTok_len h
  unfold writtenS
  rcases okTok_cases h with ⟨rfl, rfl, _⟩ | ⟨rfl, h2, _⟩ | ⟨rfl, rfl, h3, h4⟩ | ⟨rfl, h2, _⟩ | ⟨rfl, rfl, h3, h4⟩ | ⟨rfl, h2, _⟩
  · simp
  · simp; omega
  · rw [if_pos rfl]
    have := decDigits_le (n := n.toNat) (by omega)
    omega
  · rw [if_neg (by decide), if_pos rfl]
    unfold quoteS
    have := quote_len x
    simp only [List.length_cons, List.length_append, List.length_nil]; omega
  · rw [if_neg (by decide), if_neg (by decide), if_pos rfl]
    have := fmtS_len h3 h4
    simp; omega
  · simp; omega
/-- What the reference's loop holds: the texts of the first k tokens. -/
theorem inter_snoc (l : List Bytes) (x : Bytes) (h : l ≠ []) : List.intercalate [32] (l ++ [x]) = List.intercalate [32] l ++ [32] ++ x := by
  induction l with
  | nil => exact absurd rfl h
  | cons a l ih =>
    cases l with
    | nil => simp [List.intercalate]
    | cons b l =>
      have := ih (by simp)
      simp only [List.intercalate, List.cons_append, List.intersperse, List.flatten_cons] at *
      simp [this]
theorem inter_len (l : List Bytes) (h : ∀ x ∈ l, x.length ≤ 130) : (List.intercalate [32] l).length ≤ 131 * l.length := by
  induction l with
  | nil => simp [List.intercalate]
  | cons a l ih =>
    have ih' := ih (fun x hx => h x (by simp [hx]))
    have ha := h a (by simp)
    cases l with
    | nil => simp [List.intercalate]; omega
    | cons b l =>
      simp only [List.intercalate, List.intersperse, List.flatten_cons, List.length_append, List.length_cons, List.length_nil] at *
      omega
theorem inter_mono (l m : List Bytes) : (List.intercalate [32] l).length ≤ (List.intercalate [32] (l ++ m)).length := by
  induction m generalizing l with
  | nil => simp
  | cons x m ih =>
    have := ih (l ++ [x])
    rw [List.append_assoc, List.singleton_append] at this
    refine Nat.le_trans ?_ this
    by_cases h : l = []
    · subst h; simp [List.intercalate]
    · rw [inter_snoc l x h]; simp <;> omega
end Go.Proofs.YtajcddaahmbllaaDoor

namespace Go.Proofs.YtajcddaahmbllaaDoor
open Go.RowKit
/-- The texts of the first k tokens, with blanks between. -/
noncomputable def partS (ts : List Tok) (k : Nat) : Bytes := List.intercalate [32] ((ts.take k).map Tok.written)
theorem partS_zero (ts : List Tok) : partS ts 0 = [] := rfl
theorem partS_one (ts : List Tok) (h : 0 < ts.length) : partS ts 1 = ts[0].written := by
  cases ts with
  | nil => simp at h
  | cons t ts => simp [partS, List.intercalate]
theorem partS_succ (ts : List Tok) (k : Nat) (h : k < ts.length) (h0 : 0 < k) : partS ts (k + 1) = partS ts k ++ [32] ++ ts[k].written := by
  unfold partS
  rw [List.take_succ_eq_append_getElem h, List.map_append]
  refine inter_snoc _ _ fun e => ?_
  have : ((ts.take k).map Tok.written).length = 0 := by rw [e]; rfl
  rw [List.length_map, List.length_take] at this
  omega
theorem partS_mono (ts : List Tok) {j k : Nat} (h : j ≤ k) : (partS ts j).length ≤ (partS ts k).length := by
  unfold partS
  obtain ⟨m, rfl⟩ := Nat.exists_eq_add_of_le h
  rw [List.take_add, List.map_append]
  exact inter_mono _ _
theorem joinS_part (ts : List Tok) {m : Nat} (h : ts.length = m + 1) : joinS ts = partS ts m := by
  unfold joinS partS
  rw [List.dropLast_eq_take, h]; rfl
theorem partS_le (ts : List Tok) (h : ∀ i (h : i < ts.length), ts[i].ok = true) (k : Nat) (hk : k ≤ 1000000) : (partS ts k).length ≤ 131000000 := by
  unfold partS
  have := inter_len ((ts.take k).map Tok.written) (fun x hx => by
    rw [List.mem_map] at hx
    obtain ⟨t, ht, rfl⟩ := hx
    obtain ⟨i, hi, rfl⟩ := List.mem_iff_getElem.1 (List.mem_of_mem_take ht)
    exact written_len (h i hi))
  rw [List.length_map, List.length_take] at this
  omega
theorem joinR_no {ts : List Tok} (h : valE ts = 8) : joinR ts = ([], 8) := by
  unfold joinR valE at *
  split at h
  · omega
  · rename_i hv; rw [if_neg hv]
theorem joinR_big {ts : List Tok} {m j : Nat} (h : valE ts = 0) (hm : ts.length = m + 1) (hj : j ≤ m) (hb : 65536 < (partS ts j).length) : joinR ts = ([], 2) := by
  unfold joinR valE at *
  split at h
  · rename_i hv
    rw [if_pos hv, joinS_part ts hm, if_pos]
    have := partS_mono ts hj
    omega
  · omega
theorem joinR_ok {ts : List Tok} {m : Nat} (h : valE ts = 0) (hm : ts.length = m + 1) (hb : ¬ 65536 < (partS ts m).length) : joinR ts = (partS ts m, 0) := by
  unfold joinR valE at *
  split at h
  · rename_i hv
    rw [if_pos hv, joinS_part ts hm, if_neg hb]
  · omega
theorem valE_cases (ts : List Tok) : valE ts = 8 ∨ (valE ts = 0 ∧ 0 < ts.length ∧ ∀ i (h : i < ts.length), ts[i].ok = true ∧ (ts[i].kind = 0 ↔ i = ts.length - 1)) := by
  unfold valE
  cases h : valT ts
  · left; rfl
  · right; exact ⟨rfl, (valT_iff ts).1 h⟩
end Go.Proofs.YtajcddaahmbllaaDoor

namespace Go.Proofs.YtajcddaahmbllaaDoor
open Go.RowKit
theorem index_cons (b : UInt8) (l : Bytes) : Lib.index (b :: l) [39] = if b = 39 then 0 else if Lib.index l [39] = -1 then -1 else Lib.index l [39] + 1 := by
  rw [Lib.index_one, Lib.index_one, Lib.indexByte]
  by_cases h : b = 39
  · subst h; simp
  · simp [h]
theorem replaceK_q : ∀ (s : Bytes) (k : Nat), s.count 39 ≤ k → Lib.replaceK [39] [39, 39] k s = s.flatMap qByte
  | [], 0, _ => rfl
  | [], k + 1, _ => by simp [Lib.replaceK, Lib.index]
  | b :: l, 0, h => by
    by_cases hb : b = 39
    · subst hb; simp at h
    · have hc : l.count 39 ≤ 0 := by rw [List.count_cons_of_ne (by simpa using hb)] at h; exact h
      have ih := replaceK_q l 0 hc
      rw [List.flatMap_cons, ← ih]
      have hq : qByte b = [b] := by unfold qByte; rw [if_neg (fun e => hb (UInt8.toNat_inj.1 (by rw [e]; rfl)))]
      rw [hq]; rfl
  | b :: l, k + 1, h => by
    by_cases hb : b = 39
    · subst hb
      have hc : l.count 39 ≤ k := by simp at h; exact h
      have ih := replaceK_q l k hc
      rw [Lib.replaceK_hit _ _ _ _ 0 (by rw [index_cons, if_pos rfl]; rfl), List.flatMap_cons, ← ih]
      rfl
    · have hc : l.count 39 ≤ k + 1 := by rw [List.count_cons_of_ne (by simpa using hb)] at h; exact h
      have ih := replaceK_q l (k + 1) hc
      have hq : qByte b = [b] := by unfold qByte; rw [if_neg (fun e => hb (UInt8.toNat_inj.1 (by rw [e]; rfl)))]
      rw [List.flatMap_cons, hq, ← ih]
      have hge := Lib.index_ge l [39]
      by_cases hm : Lib.index l [39] = -1
      · rw [Lib.replaceK, Lib.replaceK, index_cons, if_neg hb, if_pos hm, hm]; simp
      · obtain ⟨i, hi⟩ : ∃ i : Nat, Lib.index l [39] = i := ⟨(Lib.index l [39]).toNat, by omega⟩
        rw [Lib.replaceK_hit _ _ _ _ (i + 1) (by rw [index_cons, if_neg hb, if_neg hm, hi]; rfl), Lib.replaceK_hit _ _ _ _ i hi]
        show List.take (i + 1) (b :: l) ++ [39, 39] ++ Lib.replaceK [39] [39, 39] k (List.drop (i + 1 + 1) (b :: l)) = [b] ++ (List.take i l ++ [39, 39] ++ Lib.replaceK [39] [39, 39] k (List.drop (i + 1) l))
        simp
theorem replaceAll_q (s : Bytes) : Lib.replaceAll s [39] [39, 39] = s.flatMap qByte := by
  unfold Lib.replaceAll Lib.replace
  rw [if_neg (by decide)]
  refine replaceK_q s _ ?_
  unfold Lib.replaceNum
  rw [if_pos (.inl (by decide)), Lib.count_one]; exact Nat.le_refl _
structure GlobJ (w : World) : Prop where
  glob : Glob w
  len : ∃ m, w.cell? ⟨2, 0, none⟩ = some (.int .i64 m)
  tab : Lib.TabIs Tryd.prog w "internal/strconv.uint64pow10" .u64 Lib.pow10Tab
theorem gPow : Tryd.prog.globalNamed "internal/strconv.uint64pow10" = some 3 := by kernel_rfl
theorem var_lt {w : World} {n : String} {g : Nat} {cs : Array Value} (hg : Tryd.prog.globalNamed n = some g) (h : w.var? Tryd.prog n = some cs) (hs : 0 < cs.size) : g < w.heap.size := by
  have := World.var?_cell hg h 0
  rw [Array.getElem?_eq_getElem hs] at this
  exact World.block_lt_of_cell? w _ this
theorem GlobJ.below {w w' : World} (h : GlobJ w) (hb : Below w.heap.size w w') : GlobJ w' := by
  refine ⟨h.glob.below hb, ?_, ?_⟩
  · obtain ⟨m, hm⟩ := h.len
    exact ⟨m, by rw [hb.cell (p := ⟨2, 0, none⟩) (World.block_lt_of_cell? w _ hm)]; exact hm⟩
  · exact var?_below hb gPow (var_lt gPow h.tab (by decide)) h.tab
theorem replaceAll_any (s : ByteArray) (w : World) (hG : GlobJ w) (hs : s.size ≤ 100000) :
    Calls Tryd.prog 23 #[.string s, .string ⟨#[39]⟩, .string ⟨#[39, 39]⟩] w fun e w' => e = .returned (str ((bs s).flatMap qByte)) ∧ Below w.heap.size w w' := by
  obtain ⟨m, hm⟩ := hG.len
  have hc : Lib.countB s ⟨#[39]⟩ ≤ s.size := Lib.countB_le ⟨#[39]⟩ (by decide) s.size s (Nat.le_refl _)
  refine (Tryd.strings_ReplaceAll s ⟨#[39]⟩ ⟨#[39, 39]⟩ m w (by omega) hm (by decide) (by
    have : (⟨#[39, 39]⟩ : ByteArray).size = 2 := rfl
    rw [this]; omega)).mono fun e w' ⟨he, hb⟩ => ⟨?_, hb⟩
  rw [he]
  have := replaceAll_q (bs s)
  exact congrArg (fun l => Ending.returned (str l)) this
theorem grow_below (w : World) (k : Nat) (os : Array Obj) : Below w.heap.size w (Go.Sort.grow (w.drewN k) os) :=
  ⟨rfl, rfl, rfl, by simp [Go.Sort.grow, World.drewN], fun i hi => by
    show ((w.drewN k).heap ++ os)[i]? = _
    rw [Array.getElem?_append_left (by simpa [World.drewN] using hi)]
    rfl⟩
theorem itoa_any (n : Int) (w : World) (hG : GlobJ w) (h0 : 0 ≤ n) (h1 : n ≤ 1073741824) :
    Calls Tryd.prog 22 #[.int .i64 n] w fun e w' => e = .returned (str (Lib.decDigits n.toNat)) ∧ Below w.heap.size w w' := by
  refine (Tryd.strconv_Itoa n (by omega) (by omega) w hG.tab).mono fun e w' ⟨he, hb⟩ => ⟨?_, ?_⟩
  · rw [he]
    unfold Lib.itoa
    rw [if_neg (by omega)]
  · obtain ⟨k, os, rfl⟩ := hb
    exact grow_below w k os
end Go.Proofs.YtajcddaahmbllaaDoor
