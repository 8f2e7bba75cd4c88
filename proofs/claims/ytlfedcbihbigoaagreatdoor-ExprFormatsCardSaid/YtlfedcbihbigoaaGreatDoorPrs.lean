/- What the expression parsers compute, in plain lists of tokens. No program in sight. -/
import Derived.Test.YtlfedcbihbigoaaGreatDoorVals
import Derived.Test.YtlfedcbihbigoaaGreatDoorExpV
set_option linter.unusedVariables false
set_option linter.unusedSimpArgs false
namespace Go.Proofs.YtlfedcbihbigoaaGreatDoor
open Go.RowKit
inductive PR where
  | ok (es : List Nd) (i : Nat)
  | err (e : Int) (i : Nat)
  | out
def PR.bind (r : PR) (k : List Nd → Nat → PR) : PR := match r with
  | .ok es i => k es i
  | .err e i => .err e i
  | .out => .out
def tk (ts : List Tok) (i : Nat) : Tok := ts.getD i tok0
def isSym (t : Tok) (x : Bytes) : Bool := t.kind == 5 && t.text == x
def isWord (t : Tok) (x : Bytes) : Bool := t.kind == 1 && t.text == x
def wNot : Bytes := [110, 111, 116]
def wNull : Bytes := [110, 117, 108, 108]
def wTrue : Bytes := [116, 114, 117, 101]
def wFalse : Bytes := [102, 97, 108, 115, 101]
def wDay : Bytes := [100, 97, 121]
def opOf (l : Nat) (t : Tok) : Option Int :=
  if l = 0 then (if isWord t [111, 114] = true then some 15 else none)
  else if l = 1 then (if isWord t [97, 110, 100] = true then some 14 else none)
  else if l = 4 then (if isSym t [43, 43] = true then some 9 else none)
  else if l = 5 then (if isSym t [43] = true then some 4 else if isSym t [45] = true then some 5 else none)
  else if l = 6 then (if isSym t [42] = true then some 6 else if isSym t [47] = true then some 7 else if isSym t [37] = true then some 8 else none)
  else none
def cmpOf (t : Tok) : Option (Int × Bool) :=
  if isSym t [61] = true then some (10, false) else if isSym t [33, 61] = true then some (11, false) else if isSym t [60] = true then some (12, false)
  else if isSym t [60, 61] = true then some (13, false) else if isSym t [62] = true then some (12, true) else if isSym t [62, 61] = true then some (13, true) else none
def begB (ts : List Tok) (i : Nat) : Bool :=
  if (tk ts i).kind = 2 ∨ (tk ts i).kind = 3 ∨ (tk ts i).kind = 4 then true
  else if (tk ts i).kind = 1 then
    if (tk ts i).text = wNull ∨ (tk ts i).text = wTrue ∨ (tk ts i).text = wFalse then true
    else !wordsS.contains (tk ts i).text && (isSym (tk ts (i + 1)) [40] || isNameB 24 (tk ts i).text)
  else isSym (tk ts i) [45] || isSym (tk ts i) [40]
def opNd (o : Int) : Nd := ⟨o, vl0, [], 0⟩
def cNd (k n : Int) (x : Bytes) : Nd := ⟨0, ⟨k, n, x⟩, [], 0⟩
def builtS (x : Bytes) : Option (Int × Nat) :=
  if x = [105, 102] then some (17, 3) else if x = [99, 111, 97, 108, 101, 115, 99, 101] then some (18, 2) else if x = [105, 115, 110, 117, 108, 108] then some (16, 1)
  else if x = [108, 101, 110, 103, 116, 104] then some (19, 1) else none
def callS (x : Bytes) (n : Nat) : Option Nd := match builtS x with
  | some (o, a) => if n = a then some (opNd o) else none
  | none => if n ≤ 8 then some ⟨21, vl0, x, n⟩ else none
def endS (x : Bytes) (es : List Nd) (n i : Nat) : PR := match callS x n with
  | some nd => .ok (es ++ [nd]) (i + 1)
  | none => .err 3 i
def chainG (p : Nat → PR) (op : Tok → Option Int) (ts : List Tok) : Nat → List Nd → Nat → PR
  | 0, _, _ => .out
  | G + 1, es, i => match op (tk ts i) with
    | none => .ok es i
    | some o => (p (i + 1)).bind fun fs j => chainG p op ts G (es ++ fs ++ [opNd o]) j
/-- The arguments of a call, from the beginning of one. -/
def argsG (p : Nat → PR) (x : Bytes) (ts : List Tok) : Nat → List Nd → Nat → Nat → PR
  | 0, _, _, _ => .out
  | G + 1, es, n, i => (p i).bind fun fs j =>
    if isSym (tk ts j) [44] = true then argsG p x ts G (es ++ fs) (n + 1) (j + 1)
    else if isSym (tk ts j) [41] = true then endS x (es ++ fs) (n + 1) j else .err 3 j
def dayS (ts : List Tok) (es : List Nd) (j : Nat) : PR :=
  if isSym (tk ts j) [44] = true then
    if (tk ts (j + 1)).kind = 1 ∧ wordsS.contains (tk ts (j + 1)).text = false then
      if isSym (tk ts (j + 2)) [41] = true then .ok (es ++ [⟨20, vl0, (tk ts (j + 1)).text, 0⟩]) (j + 3) else .err 3 (j + 2)
    else .err 3 (j + 1)
  else .err 3 j
def notP (q : Nat → Nat → Nat → PR) (ts : List Tok) (i d : Nat) : PR :=
  if isWord (tk ts i) wNot = true then
    if 256 < d then .err 2 i else (q 2 (i + 1) (d + 1)).bind fun es j => .ok (es ++ [opNd 2]) j
  else q 3 i d
def cmpP (q : Nat → Nat → Nat → PR) (ts : List Tok) (i d : Nat) : PR :=
  (q 4 i d).bind fun es j => match cmpOf (tk ts j) with
    | none => .ok es j
    | some (o, b) => (q 4 (j + 1) d).bind fun fs m => .ok ((if b = true then fs ++ es else es ++ fs) ++ [opNd o]) m
def unP (q : Nat → Nat → Nat → PR) (ts : List Tok) (i d : Nat) : PR :=
  if begB ts i = false then .err 3 i
  else if 256 < d then .err 2 i
  else if isSym (tk ts i) [45] = true then
    if (tk ts (i + 1)).kind = 2 then .ok [cNd 2 (-(tk ts (i + 1)).num) []] (i + 2)
    else (q 7 (i + 1) (d + 1)).bind fun es j => .ok (es ++ [opNd 3]) j
  else q 8 i d
def callP (q : Nat → Nat → Nat → PR) (ts : List Tok) (x : Bytes) (i d : Nat) : PR :=
  if x = wDay then
    if isSym (tk ts i) [41] = true then .err 3 i else (q 0 i d).bind (dayS ts)
  else if isSym (tk ts i) [41] = true then endS x [] 0 i
  else argsG (fun j => q 0 j d) x ts ts.length [] 0 i
def namP (q : Nat → Nat → Nat → PR) (ts : List Tok) (i d : Nat) : PR :=
  if (tk ts i).text = wNull then .ok [cNd 0 0 []] (i + 1)
  else if (tk ts i).text = wTrue then .ok [cNd 1 1 []] (i + 1)
  else if (tk ts i).text = wFalse then .ok [cNd 1 0 []] (i + 1)
  else if isSym (tk ts (i + 1)) [40] = true then callP q ts (tk ts i).text (i + 2) (d + 1)
  else .ok [⟨1, vl0, (tk ts i).text, 0⟩] (i + 1)
def primP (q : Nat → Nat → Nat → PR) (ts : List Tok) (i d : Nat) : PR :=
  if (tk ts i).kind = 2 then .ok [cNd 2 (tk ts i).num []] (i + 1)
  else if (tk ts i).kind = 3 then .ok [cNd 3 0 (tk ts i).text] (i + 1)
  else if (tk ts i).kind = 4 then .ok [cNd 4 (tk ts i).num []] (i + 1)
  else if (tk ts i).kind = 5 then (q 0 (i + 1) (d + 1)).bind fun es j => if isSym (tk ts j) [41] = true then .ok es (j + 1) else .err 3 j
  else namP q ts i d
def chnP (q : Nat → Nat → Nat → PR) (ts : List Tok) (l i d : Nat) : PR :=
  (q (l + 1) i d).bind (chainG (fun j => q (l + 1) j d) (opOf l) ts ts.length)
def prs (ts : List Tok) : Nat → Nat → Nat → Nat → PR
  | 0, _, _, _ => .out
  | F + 1, l, i, d =>
    if l = 2 then notP (fun l i d => prs ts F l i d) ts i d
    else if l = 3 then cmpP (fun l i d => prs ts F l i d) ts i d
    else if l = 7 then unP (fun l i d => prs ts F l i d) ts i d
    else if l = 8 then primP (fun l i d => prs ts F l i d) ts i d
    else chnP (fun l i d => prs ts F l i d) ts l i d
def Fact (ts : List Tok) (b : Nat) : PR → Prop
  | .ok es j => b < j ∧ j < ts.length ∧ es.length ≤ j - b ∧ NamesOk es
  | .err e j => j < ts.length ∧ (e = 2 ∨ e = 3)
  | .out => True
theorem tk_eq {ts : List Tok} {i : Nat} (h : i < ts.length) : tk ts i = ts[i] := by
  unfold tk
  rw [List.getD_eq_getElem?_getD, List.getElem?_eq_getElem h, Option.getD_some]
theorem tk_next {ts : List Tok} (hv : valT ts = true) {i : Nat} (h : i < ts.length) (hk : (tk ts i).kind ≠ 0) : i + 1 < ts.length := by
  have := ((valT_iff ts).1 hv).2 i h
  rw [tk_eq h] at hk
  rcases Nat.lt_or_ge (i + 1) ts.length with h1 | h1
  · exact h1
  · exact absurd (this.2.2 (by omega)) hk
theorem isSym_kind {t : Tok} {x : Bytes} (h : isSym t x = true) : t.kind = 5 := by
  unfold isSym at h; simp at h; exact h.1
theorem isSym_text {t : Tok} {x : Bytes} (h : isSym t x = true) : t.text = x := by
  unfold isSym at h; simp at h; exact h.2
theorem isWord_kind {t : Tok} {x : Bytes} (h : isWord t x = true) : t.kind = 1 := by
  unfold isWord at h; simp at h; exact h.1
theorem isWord_text {t : Tok} {x : Bytes} (h : isWord t x = true) : t.text = x := by
  unfold isWord at h; simp at h; exact h.2
theorem sym_next {ts : List Tok} (hv : valT ts = true) {i : Nat} (h : i < ts.length) {x : Bytes} (hs : isSym (tk ts i) x = true) : i + 1 < ts.length :=
  tk_next hv h (by rw [isSym_kind hs]; decide)
theorem word_next {ts : List Tok} (hv : valT ts = true) {i : Nat} (h : i < ts.length) {x : Bytes} (hs : isWord (tk ts i) x = true) : i + 1 < ts.length :=
  tk_next hv h (by rw [isWord_kind hs]; decide)
theorem opOf_kind {l : Nat} {t : Tok} {o : Int} (h : opOf l t = some o) : t.kind ≠ 0 := by
  unfold opOf at h
  intro h0
  have h1 : ∀ x, isWord t x = false := fun x => by unfold isWord; rw [h0]; rfl
  have h2 : ∀ x, isSym t x = false := fun x => by unfold isSym; rw [h0]; rfl
  simp [h1, h2] at h
theorem cmpOf_kind {t : Tok} {o : Int × Bool} (h : cmpOf t = some o) : t.kind ≠ 0 := by
  unfold cmpOf at h
  intro h0
  have h2 : ∀ x, isSym t x = false := fun x => by unfold isSym; rw [h0]; rfl
  simp [h2] at h
theorem beg_kind {ts : List Tok} {i : Nat} (h : begB ts i = true) : (tk ts i).kind ≠ 0 := by
  intro h0
  unfold begB at h
  have h2 : ∀ x, isSym (tk ts i) x = false := fun x => by unfold isSym; rw [h0]; rfl
  simp [h0, h2] at h
theorem isQualB_len {x : Bytes} (h : isQualB 24 x = true) : x.length ≤ 49 := by
  unfold isQualB at h
  split at h
  · unfold isNameB at h
    simp only [Bool.and_eq_true, decide_eq_true_eq] at h
    have h1 := h.1.1
    have h2 := h.2.1
    rw [List.length_take] at h1
    rw [List.length_drop] at h2
    omega
  · unfold isNameB at h
    simp only [Bool.and_eq_true, decide_eq_true_eq] at h
    omega
theorem tk_ok {ts : List Tok} (hv : valT ts = true) {i : Nat} (h : i < ts.length) : (tk ts i).ok = true := by
  rw [tk_eq h]; exact (((valT_iff ts).1 hv).2 i h).1
theorem tk_name {ts : List Tok} (hv : valT ts = true) {i : Nat} (h : i < ts.length) (hk : (tk ts i).kind = 1) : isQualB 24 (tk ts i).text = true := by
  have := tk_ok hv h
  unfold Tok.ok at this
  rw [hk, okTok_1] at this
  simp only [Bool.and_eq_true] at this
  exact this.1
theorem Fact.bind {ts : List Tok} {b b2 : Nat} {r : PR} {k : List Nd → Nat → PR} (h : Fact ts b2 r) (hk : ∀ es j, b2 < j → j < ts.length → es.length ≤ j - b2 → NamesOk es → Fact ts b (k es j)) : Fact ts b (r.bind k) := by
  cases r with
  | ok es j => exact hk es j h.1 h.2.1 h.2.2.1 h.2.2.2
  | err e j => exact h
  | out => trivial
theorem names_nil : NamesOk [] := fun n hn => absurd hn (by simp)
theorem names_app {a b : List Nd} (h : NamesOk a) (k : NamesOk b) : NamesOk (a ++ b) := fun n hn => by
  rcases List.mem_append.1 hn with hn | hn
  · exact h n hn
  · exact k n hn
theorem names_one {n : Nd} (h : n.name.length ≤ maxLen) : NamesOk [n] := fun m hm => by
  rw [List.mem_singleton] at hm; subst hm; exact h
theorem names_op (o : Int) : NamesOk [opNd o] := names_one (Nat.zero_le _)
theorem names_c (k n : Int) (x : Bytes) : NamesOk [cNd k n x] := names_one (Nat.zero_le _)
theorem callS_names {x : Bytes} {n : Nat} {nd : Nd} (hx : x.length ≤ maxLen) (h : callS x n = some nd) : NamesOk [nd] := by
  unfold callS at h
  split at h
  · split at h
    · injection h with h; subst h; exact names_op _
    · cases h
  · split at h
    · injection h with h; subst h; exact names_one hx
    · cases h
theorem chainG_fact {ts : List Tok} (hv : valT ts = true) {p : Nat → PR} {l : Nat} (hp : ∀ j, j < ts.length → Fact ts j (p j)) (b : Nat) : ∀ G es i, b < i → i < ts.length → es.length ≤ i - b → NamesOk es → Fact ts b (chainG p (opOf l) ts G es i)
  | 0, es, i, _, _, _, _ => trivial
  | G + 1, es, i, hb, hi, hl, hn => by
    unfold chainG
    split
    · exact ⟨hb, hi, hl, hn⟩
    · rename_i o ho
      have h1 := tk_next hv hi (opOf_kind ho)
      refine (hp (i + 1) h1).bind fun fs j hj hjl hfl hfn => ?_
      exact chainG_fact hv hp b G _ j (by omega) hjl (by simp only [List.length_append, List.length_singleton]; omega) (names_app (names_app hn hfn) (names_op o))
theorem endS_fact {ts : List Tok} (hv : valT ts = true) {x : Bytes} (hx : x.length ≤ maxLen) {b : Nat} {es : List Nd} {n i : Nat} (hb : b < i) (hi : i < ts.length) (hs : isSym (tk ts i) [41] = true) (hl : es.length ≤ i - b) (hn : NamesOk es) : Fact ts b (endS x es n i) := by
  unfold endS
  split
  · rename_i nd hnd
    exact ⟨by omega, sym_next hv hi hs, by simp only [List.length_append, List.length_singleton]; omega, names_app hn (callS_names hx hnd)⟩
  · exact ⟨hi, .inr rfl⟩
theorem argsG_fact {ts : List Tok} (hv : valT ts = true) {x : Bytes} (hx : x.length ≤ maxLen) {p : Nat → PR} (hp : ∀ j, j < ts.length → Fact ts j (p j)) (b : Nat) : ∀ G es n i, b < i → i < ts.length → es.length ≤ i - b → NamesOk es → Fact ts b (argsG p x ts G es n i)
  | 0, es, n, i, _, _, _, _ => trivial
  | G + 1, es, n, i, hb, hi, hl, hn => by
    unfold argsG
    refine (hp i hi).bind fun fs j hj hjl hfl hfn => ?_
    have hl2 : (es ++ fs).length ≤ j - b := by rw [List.length_append]; omega
    split
    · rename_i hs
      exact argsG_fact hv hx hp b G _ _ (j + 1) (by omega) (sym_next hv hjl hs) (by omega) (names_app hn hfn)
    · split
      · rename_i hs
        exact endS_fact hv hx (by omega) hjl hs hl2 (names_app hn hfn)
      · exact ⟨hjl, .inr rfl⟩
theorem notP_fact {ts : List Tok} (hv : valT ts = true) {q : Nat → Nat → Nat → PR} {i d : Nat} (ih : ∀ l i d, i < ts.length → (l = 8 → begB ts i = true) → Fact ts i (q l i d)) (hi : i < ts.length) : Fact ts i (notP q ts i d) := by
  unfold notP
  split
  · rename_i hw
    split
    · exact ⟨hi, .inl rfl⟩
    · refine (ih 2 (i + 1) (d + 1) (word_next hv hi hw) (by omega)).bind fun es j hj hjl hel hen => ?_
      exact ⟨by omega, hjl, by simp only [List.length_append, List.length_singleton]; omega, names_app hen (names_op 2)⟩
  · exact ih 3 i d hi (by omega)
theorem cmpP_fact {ts : List Tok} (hv : valT ts = true) {q : Nat → Nat → Nat → PR} {i d : Nat} (ih : ∀ l i d, i < ts.length → (l = 8 → begB ts i = true) → Fact ts i (q l i d)) (hi : i < ts.length) : Fact ts i (cmpP q ts i d) := by
  unfold cmpP
  refine (ih 4 i d hi (by omega)).bind fun es j hj hjl hel hen => ?_
  split
  · exact ⟨hj, hjl, hel, hen⟩
  · rename_i o b ho
    have h1 := tk_next hv hjl (cmpOf_kind ho)
    refine (ih 4 (j + 1) d h1 (by omega)).bind fun fs m hm hml hfl hfn => ?_
    refine ⟨by omega, hml, ?_, names_app ?_ (names_op o)⟩
    · split <;> simp only [List.length_append, List.length_singleton] <;> omega
    · split
      · exact names_app hfn hen
      · exact names_app hen hfn
theorem unP_fact {ts : List Tok} (hv : valT ts = true) {q : Nat → Nat → Nat → PR} {i d : Nat} (ih : ∀ l i d, i < ts.length → (l = 8 → begB ts i = true) → Fact ts i (q l i d)) (hi : i < ts.length) : Fact ts i (unP q ts i d) := by
  unfold unP
  split
  · exact ⟨hi, .inr rfl⟩
  rename_i hb
  have hb : begB ts i = true := by simpa using hb
  have h1 := tk_next hv hi (beg_kind hb)
  split
  · exact ⟨hi, .inl rfl⟩
  split
  · split
    · rename_i h2
      have h3 := tk_next hv h1 (by rw [h2]; decide)
      exact ⟨by omega, h3, by simp, names_c _ _ _⟩
    · refine (ih 7 (i + 1) (d + 1) h1 (by omega)).bind fun es j hj hjl hel hen => ?_
      exact ⟨by omega, hjl, by simp only [List.length_append, List.length_singleton]; omega, names_app hen (names_op 3)⟩
  · exact ih 8 i d hi (fun _ => hb)
theorem dayS_fact {ts : List Tok} (hv : valT ts = true) {b j : Nat} {es : List Nd} (hj : b < j) (hjl : j < ts.length) (hel : es.length ≤ j - b) (hen : NamesOk es) : Fact ts b (dayS ts es j) := by
  unfold dayS
  split
  · rename_i hc
    have h3 := sym_next hv hjl hc
    split
    · rename_i hk
      have h4 := tk_next hv h3 (by rw [hk.1]; decide)
      split
      · rename_i hs
        have h5 := sym_next hv h4 hs
        refine ⟨by omega, h5, by simp only [List.length_append, List.length_singleton]; omega, names_app hen (names_one ?_)⟩
        have := isQualB_len (tk_name hv h3 hk.1)
        show (tk ts (j + 1)).text.length ≤ maxLen
        unfold maxLen; omega
      · exact ⟨h4, .inr rfl⟩
    · exact ⟨h3, .inr rfl⟩
  · exact ⟨hjl, .inr rfl⟩
theorem Fact.mono {ts : List Tok} {b b2 : Nat} {r : PR} (h : Fact ts b2 r) (hb : b ≤ b2) : Fact ts b r := by
  cases r with
  | ok es j => exact ⟨Nat.lt_of_le_of_lt hb h.1, h.2.1, Nat.le_trans h.2.2.1 (by omega), h.2.2.2⟩
  | err e j => exact h
  | out => trivial
theorem callP_fact {ts : List Tok} (hv : valT ts = true) {q : Nat → Nat → Nat → PR} {x : Bytes} (hx : x.length ≤ maxLen) {b i d : Nat} (ih : ∀ l i d, i < ts.length → (l = 8 → begB ts i = true) → Fact ts i (q l i d)) (hi : i < ts.length) (hb : b < i) : Fact ts b (callP q ts x i d) := by
  unfold callP
  split
  · split
    · exact ⟨hi, .inr rfl⟩
    · exact (ih 0 i d hi (by omega)).bind fun es j hj hjl hel hen => dayS_fact hv (by omega) hjl (by omega) hen
  · split
    · rename_i hs
      exact endS_fact hv hx hb hi hs (by simp) names_nil
    · exact argsG_fact hv hx (fun j hj => ih 0 j d hj (by omega)) b _ _ _ _ hb hi (by simp) names_nil
theorem beg_name {ts : List Tok} {i : Nat} (hb : begB ts i = true) (k2 : ¬ (tk ts i).kind = 2) (k3 : ¬ (tk ts i).kind = 3) (k4 : ¬ (tk ts i).kind = 4) (k5 : ¬ (tk ts i).kind = 5) : (tk ts i).kind = 1 := by
  by_cases e : (tk ts i).kind = 1
  · exact e
  · exfalso
    unfold begB at hb
    rw [if_neg (fun h => h.elim k2 (fun h => h.elim k3 k4)), if_neg e] at hb
    have h2 : ∀ x, isSym (tk ts i) x = false := fun x => by unfold isSym; simp [k5]
    simp [h2] at hb
theorem namP_fact {ts : List Tok} (hv : valT ts = true) {q : Nat → Nat → Nat → PR} {i d : Nat} (ih : ∀ l i d, i < ts.length → (l = 8 → begB ts i = true) → Fact ts i (q l i d)) (hi : i < ts.length) (hk : (tk ts i).kind = 1) : Fact ts i (namP q ts i d) := by
  have h1 := tk_next hv hi (by rw [hk]; decide)
  have one : ∀ nd : Nd, NamesOk [nd] → Fact ts i (.ok [nd] (i + 1)) := fun nd hn => ⟨by omega, h1, by simp, hn⟩
  have hnm : (tk ts i).text.length ≤ maxLen := by
    have := isQualB_len (tk_name hv hi hk)
    unfold maxLen; omega
  unfold namP
  split
  · exact one _ (names_c _ _ _)
  split
  · exact one _ (names_c _ _ _)
  split
  · exact one _ (names_c _ _ _)
  split
  · rename_i hp
    exact callP_fact hv hnm ih (sym_next hv h1 hp) (by omega)
  · exact one _ (names_one hnm)
theorem primP_fact {ts : List Tok} (hv : valT ts = true) {q : Nat → Nat → Nat → PR} {i d : Nat} (ih : ∀ l i d, i < ts.length → (l = 8 → begB ts i = true) → Fact ts i (q l i d)) (hi : i < ts.length) (hb : begB ts i = true) : Fact ts i (primP q ts i d) := by
  have h1 := tk_next hv hi (beg_kind hb)
  have one : ∀ nd : Nd, NamesOk [nd] → Fact ts i (.ok [nd] (i + 1)) := fun nd hn => ⟨by omega, h1, by simp, hn⟩
  unfold primP
  split
  · exact one _ (names_c _ _ _)
  split
  · exact one _ (names_c _ _ _)
  split
  · exact one _ (names_c _ _ _)
  split
  · refine (ih 0 (i + 1) (d + 1) h1 (by omega)).bind fun es j hj hjl hel hen => ?_
    split
    · rename_i hs
      exact ⟨by omega, sym_next hv hjl hs, by omega, hen⟩
    · exact ⟨hjl, .inr rfl⟩
  rename_i k2 k3 k4 k5
  exact namP_fact hv ih hi (beg_name hb k2 k3 k4 k5)
theorem prs_fact {ts : List Tok} (hv : valT ts = true) : ∀ F l i d, i < ts.length → (l = 8 → begB ts i = true) → Fact ts i (prs ts F l i d)
  | 0, l, i, d, _, _ => trivial
  | F + 1, l, i, d, hi, h8 => by
    have ih := prs_fact hv F
    unfold prs
    split
    · exact notP_fact hv ih hi
    split
    · exact cmpP_fact hv ih hi
    split
    · exact unP_fact hv ih hi
    split
    · rename_i e; exact primP_fact hv ih hi (h8 e)
    · rename_i n2 n3 n7 n8
      refine (ih (l + 1) i d hi (fun e => absurd e (by omega))).bind fun es j hj hjl hel hen => ?_
      exact chainG_fact hv (fun j hj => ih (l + 1) j d hj (fun e => absurd e (by omega))) i _ _ _ hj hjl hel hen
theorem bind_ne {r : PR} {k : List Nd → Nat → PR} (h : r ≠ .out) (hk : ∀ es j, r = .ok es j → k es j ≠ .out) : r.bind k ≠ .out := by
  cases r with
  | ok es j => exact hk es j rfl
  | err e j => exact fun e => by cases e
  | out => exact absurd rfl h
theorem ok_ne {es : List Nd} {j : Nat} : (PR.ok es j) ≠ .out := fun e => by cases e
theorem err_ne {e : Int} {j : Nat} : (PR.err e j) ≠ .out := fun e => by cases e
theorem endS_ne {x : Bytes} {es : List Nd} {n i : Nat} : endS x es n i ≠ .out := by
  unfold endS; split
  · exact ok_ne
  · exact err_ne
theorem dayS_ne {ts : List Tok} {es : List Nd} {j : Nat} : dayS ts es j ≠ .out := by
  unfold dayS
  split
  · split
    · split
      · exact ok_ne
      · exact err_ne
    · exact err_ne
  · exact err_ne
theorem Fact.ok {ts : List Tok} {b : Nat} {r : PR} (h : Fact ts b r) {es : List Nd} {j : Nat} (e : r = .ok es j) : b < j ∧ j < ts.length := by
  subst e; exact ⟨h.1, h.2.1⟩
theorem chainG_ne {ts : List Tok} (hv : valT ts = true) {p : Nat → PR} {l : Nat} (hp : ∀ j, j < ts.length → Fact ts j (p j)) : ∀ G es i, i < ts.length → ts.length < G + i → (∀ j, i < j → j < ts.length → p j ≠ .out) → chainG p (opOf l) ts G es i ≠ .out
  | 0, es, i, hi, hg, _ => by omega
  | G + 1, es, i, hi, hg, h => by
    unfold chainG
    split
    · exact ok_ne
    · rename_i o ho
      have h1 := tk_next hv hi (opOf_kind ho)
      refine bind_ne (h _ (by omega) h1) fun fs j e => ?_
      have hj := (hp _ h1).ok e
      exact chainG_ne hv hp G _ j hj.2 (by omega) (fun m hm hml => h m (by omega) hml)
theorem argsG_ne {ts : List Tok} (hv : valT ts = true) {x : Bytes} {p : Nat → PR} (hp : ∀ j, j < ts.length → Fact ts j (p j)) : ∀ G es n i, i < ts.length → ts.length < G + i → (∀ j, i ≤ j → j < ts.length → p j ≠ .out) → argsG p x ts G es n i ≠ .out
  | 0, es, n, i, hi, hg, _ => by omega
  | G + 1, es, n, i, hi, hg, h => by
    unfold argsG
    refine bind_ne (h i (Nat.le_refl _) hi) fun fs j e => ?_
    have hj := (hp _ hi).ok e
    split
    · rename_i hs
      exact argsG_ne hv hp G _ _ (j + 1) (sym_next hv hj.2 hs) (by omega) (fun m hm hml => h m (by omega) hml)
    · split
      · exact endS_ne
      · exact err_ne
theorem prs_ne {ts : List Tok} (hv : valT ts = true) : ∀ F l i d, i < ts.length → l ≤ 8 → (l = 8 → begB ts i = true) → (ts.length - i) * 10 + (9 - l) ≤ F → prs ts F l i d ≠ .out
  | 0, l, i, d, hi, hl, _, hF => by omega
  | F + 1, l, i, d, hi, hl, h8, hF => by
    have ih := prs_ne hv F
    have hf := prs_fact hv F
    unfold prs
    split
    · unfold notP
      split
      · rename_i hw
        have h1 := word_next hv hi hw
        split
        · exact err_ne
        · exact bind_ne (ih 2 (i + 1) (d + 1) h1 (by omega) (fun e => absurd e (by omega)) (by omega)) fun es j e => ok_ne
      · exact ih 3 i d hi (by omega) (fun e => absurd e (by omega)) (by omega)
    split
    · unfold cmpP
      refine bind_ne (ih 4 i d hi (by omega) (fun e => absurd e (by omega)) (by omega)) fun es j e => ?_
      have hj := (hf 4 i d hi (fun e => absurd e (by omega))).ok e
      split
      · exact ok_ne
      · rename_i o b ho
        have h1 := tk_next hv hj.2 (cmpOf_kind ho)
        exact bind_ne (ih 4 (j + 1) d h1 (by omega) (fun e => absurd e (by omega)) (by omega)) fun es j e => ok_ne
    split
    · unfold unP
      split
      · exact err_ne
      rename_i hb
      have hb : begB ts i = true := by simpa using hb
      have h1 := tk_next hv hi (beg_kind hb)
      split
      · exact err_ne
      split
      · split
        · exact ok_ne
        · exact bind_ne (ih 7 (i + 1) (d + 1) h1 (by omega) (fun e => absurd e (by omega)) (by omega)) fun es j e => ok_ne
      · exact ih 8 i d hi (by omega) (fun _ => hb) (by omega)
    split
    · rename_i e8
      have hb := h8 e8
      have h1 := tk_next hv hi (beg_kind hb)
      unfold primP
      split
      · exact ok_ne
      split
      · exact ok_ne
      split
      · exact ok_ne
      split
      · refine bind_ne (ih 0 (i + 1) (d + 1) h1 (by omega) (fun e => absurd e (by omega)) (by omega)) fun es j e => ?_
        split
        · exact ok_ne
        · exact err_ne
      unfold namP
      split
      · exact ok_ne
      split
      · exact ok_ne
      split
      · exact ok_ne
      split
      · rename_i hp
        have h2 := sym_next hv h1 hp
        unfold callP
        split
        · split
          · exact err_ne
          · exact bind_ne (ih 0 (i + 2) (d + 1) h2 (by omega) (fun e => absurd e (by omega)) (by omega)) fun es j e => dayS_ne
        · split
          · exact endS_ne
          · exact argsG_ne hv (fun j hj => hf 0 j (d + 1) hj (fun e => absurd e (by omega))) _ _ _ _ h2 (by omega) (fun j hj hjl => ih 0 j (d + 1) hjl (by omega) (fun e => absurd e (by omega)) (by omega))
      · exact ok_ne
    · rename_i n2 n3 n7 n8
      unfold chnP
      refine bind_ne (ih (l + 1) i d hi (by omega) (fun e => absurd e (by omega)) (by omega)) fun es j e => ?_
      have hj := (hf (l + 1) i d hi (fun e => absurd e (by omega))).ok e
      exact chainG_ne hv (fun j hj => hf (l + 1) j d hj (fun e => absurd e (by omega))) _ _ _ hj.2 (by omega) (fun m hm hml => ih (l + 1) m d hml (by omega) (fun e => absurd e (by omega)) (by omega))
end Go.Proofs.YtlfedcbihbigoaaGreatDoor
