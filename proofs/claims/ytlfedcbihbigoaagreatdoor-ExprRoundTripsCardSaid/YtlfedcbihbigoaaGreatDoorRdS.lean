/- Plain: texts that are written token by token, and what the splitter makes of them. No program in sight. Plain: what the parser makes of the tokens of a piece: the notions, the descent through the levels. No program in sight. Plain: each writer's text is read back as its node behind its operands'. No program in sight. Plain: calls, every writer, the stack; the parser gives back every valid list of nodes from its text. No program in sight. -/
import Derived.Test.YtlfedcbihbigoaaGreatDoorJoiRv
import Derived.Test.YtlfedcbihbigoaaGreatDoorPrs
import Derived.Test.YtlfedcbihbigoaaGreatDoorFmtS
import Derived.Test.YtlfedcbihbigoaaGreatDoorPsN
import Derived.Test.YtlfedcbihbigoaaGreatDoorFmtPR
set_option linter.unusedVariables false
set_option linter.unusedSimpArgs false
namespace Go.Proofs.YtlfedcbihbigoaaGreatDoor
open Go.RowKit
/-- The splitter's answer at a place, whatever the fuel, if it is enough. -/
def SpOk (l : Bytes) (i : Nat) (ts : List Tok) : Prop := ∀ f, l.length ≤ f → splitGo f l i = .ok ts
theorem SpOk.nil (i : Nat) : SpOk [] i [⟨0, [], 0, i⟩] := fun f _ => by
  cases f <;> rfl
theorem SpOk.blank {l : Bytes} {i : Nat} {ts : List Tok} (h : SpOk l (i + 1) ts) : SpOk (32 :: l) i ts := fun f hf => by
  obtain ⟨g, rfl⟩ : ∃ g, f = g + 1 := ⟨f - 1, by simp at hf; omega⟩
  rw [splitGo_cons, if_pos (by decide)]
  exact h g (by simp at hf; omega)
theorem SpOk.one {l x : Bytes} {t : Tok} {i : Nat} {ts : List Tok} {c : UInt8} {r : Bytes} (hx : x = c :: r) (hb : blackB c) (ho : oneS (x ++ l) = .ok (t, x.length)) (h : SpOk l (i + x.length) ts) : SpOk (x ++ l) i ({ t with off := i } :: ts) := fun f hf => by
  subst hx
  obtain ⟨g, rfl⟩ : ∃ g, f = g + 1 := ⟨f - 1, by simp at hf; omega⟩
  rw [List.cons_append] at ho ⊢
  rw [splitGo_cons, if_neg (by rw [hb.1]; simp), if_neg hb.2, ho]
  show (match splitGo g ((c :: (r ++ l)).drop (c :: r).length) (i + (c :: r).length) with | .error e => _ | .ok ts => _) = _
  rw [← List.cons_append, List.drop_left, h g (by simp at hf; omega)]
/-- The text begins a row of these tokens, whatever may stand behind it. -/
def Emit (x : Bytes) (us : List Tok) : Prop := ∀ rest i ts, Stop rest → SpOk rest (i + x.length) ts → ∃ zs, sameL zs us = true ∧ SpOk (x ++ rest) i (zs ++ ts)
def EmitF (x : Bytes) (us : List Tok) : Prop := ∀ rest i ts, SpOk rest (i + x.length) ts → ∃ zs, sameL zs us = true ∧ SpOk (x ++ rest) i (zs ++ ts)
theorem EmitF.emit {x : Bytes} {us : List Tok} (h : EmitF x us) : Emit x us := fun rest i ts _ hs => h rest i ts hs
theorem sameL_app : ∀ {a b c d : List Tok}, sameL a b = true → sameL c d = true → sameL (a ++ c) (b ++ d) = true
  | [], [], c, d, _, h => h
  | [], _ :: _, _, _, h, _ => by cases h
  | _ :: _, [], _, _, h, _ => by cases h
  | x :: a, y :: b, c, d, h, k => by
    simp only [List.cons_append, sameL, Bool.and_eq_true] at h ⊢
    exact ⟨h.1, sameL_app h.2 k⟩
/-- What begins with a byte that ends every token. -/
def StopC (x : Bytes) : Prop := ∃ c r, x = c :: r ∧ c ∈ stopL
theorem StopC.stop {x rest : Bytes} (h : StopC x) : Stop (x ++ rest) := by
  obtain ⟨c, r, rfl, hc⟩ := h
  exact .inr ⟨c, r ++ rest, rfl, hc⟩
theorem StopC.app {x y : Bytes} (h : StopC x) : StopC (x ++ y) := by
  obtain ⟨c, r, rfl, hc⟩ := h
  exact ⟨c, r ++ y, rfl, hc⟩
theorem Emit.app {x y : Bytes} {us vs : List Tok} (h : Emit x us) (k : Emit y vs) (hy : StopC y) : Emit (x ++ y) (us ++ vs) := fun rest i ts hr hs => by
  obtain ⟨zs, h1, h2⟩ := k rest (i + x.length) ts hr (by rw [Nat.add_assoc, ← List.length_append]; exact hs)
  obtain ⟨zs2, h3, h4⟩ := h (y ++ rest) i (zs ++ ts) hy.stop h2
  exact ⟨zs2 ++ zs, sameL_app h3 h1, by rw [List.append_assoc, List.append_assoc]; exact h4⟩
theorem EmitF.app {x y : Bytes} {us vs : List Tok} (h : EmitF x us) (k : Emit y vs) : Emit (x ++ y) (us ++ vs) := fun rest i ts hr hs => by
  obtain ⟨zs, h1, h2⟩ := k rest (i + x.length) ts hr (by rw [Nat.add_assoc, ← List.length_append]; exact hs)
  obtain ⟨zs2, h3, h4⟩ := h (y ++ rest) i (zs ++ ts) h2
  exact ⟨zs2 ++ zs, sameL_app h3 h1, by rw [List.append_assoc, List.append_assoc]; exact h4⟩
theorem emit_blank : EmitF [32] [] := fun rest i ts hs => ⟨[], rfl, hs.blank⟩
theorem Emit.blank {y : Bytes} {vs : List Tok} (k : Emit y vs) : Emit (32 :: y) vs := EmitF.app (us := []) emit_blank k
theorem sameL_one {t u : Tok} (h : sameT t u = true) : sameL [t] [u] = true := by simp [sameL, h]
theorem emit_tok {t : Tok} (h : t.ok = true) (hk : t.kind ≠ 0) : Emit t.written [t] := fun rest i ts hr hs => by
  obtain ⟨ho, c, r, hx, hb⟩ := one_back h hk hr
  exact ⟨[_], sameL_one (by simp [sameT]), SpOk.one hx hb ho hs⟩
def symK (x : Bytes) : Tok := ⟨5, x, 0, 0⟩
def wordK (x : Bytes) : Tok := ⟨1, x, 0, 0⟩
theorem one_open (r : Bytes) : oneS (40 :: r) = .ok (⟨5, [40], 0, 0⟩, 1) := rfl
theorem one_minus (r : Bytes) : oneS (45 :: r) = .ok (⟨5, [45], 0, 0⟩, 1) := rfl
theorem emit_open : EmitF [40] [symK [40]] := fun rest i ts hs =>
  ⟨[_], sameL_one (by simp [sameT, symK]), SpOk.one (x := [40]) rfl ⟨by decide, by decide⟩ (one_open rest) hs⟩
theorem emit_minus : EmitF [45] [symK [45]] := fun rest i ts hs =>
  ⟨[_], sameL_one (by simp [sameT, symK]), SpOk.one (x := [45]) rfl ⟨by decide, by decide⟩ (one_minus rest) hs⟩
theorem emit_sym {x : Bytes} (h : symB x = true) : Emit x [symK x] :=
  emit_tok (t := symK x) (by show okTok 5 x 0 = true; rw [okTok_5, h]; rfl) (by show (5 : Int) ≠ 0; decide)
theorem emit_word {x : Bytes} (h : isQualB 24 x = true) : Emit x [wordK x] :=
  emit_tok (t := wordK x) (by show okTok 1 x 0 = true; rw [okTok_1, h]; rfl) (by show (1 : Int) ≠ 0; decide)
/-- The whole text, split. -/
theorem Emit.split {x : Bytes} {us : List Tok} (h : Emit x us) (hl : x.length ≤ 65536) : ∃ zs o, splitS x = .ok (zs ++ [⟨0, [], 0, o⟩]) ∧ sameL zs us = true := by
  obtain ⟨zs, h1, h2⟩ := h [] 0 _ (.inl rfl) (SpOk.nil _)
  rw [List.append_nil] at h2
  refine ⟨zs, ((0 + x.length : Nat) : Int), ?_, h1⟩
  unfold splitS
  rw [if_neg (by omega)]
  exact h2 _ (Nat.le_refl _)
/-! ### tokens at a place of a list -/
def At (ts : List Tok) (i : Nat) (us : List Tok) : Prop := i + us.length < ts.length ∧ ∀ k (h : k < us.length), sameT (tk ts (i + k)) us[k] = true
theorem At.app {ts us vs : List Tok} {i : Nat} (h : At ts i (us ++ vs)) : At ts i us ∧ At ts (i + us.length) vs := by
  obtain ⟨h1, h2⟩ := h
  rw [List.length_append] at h1
  refine ⟨⟨by omega, fun k hk => ?_⟩, ⟨by omega, fun k hk => ?_⟩⟩
  · have := h2 k (by rw [List.length_append]; omega)
    rwa [List.getElem_append_left hk] at this
  · have := h2 (us.length + k) (by rw [List.length_append]; omega)
    rw [List.getElem_append_right (by omega)] at this
    rw [Nat.add_assoc]
    simpa using this
theorem At.head {ts us : List Tok} {t : Tok} {i : Nat} (h : At ts i (t :: us)) : sameT (tk ts i) t = true ∧ At ts (i + 1) us := by
  have := At.app (us := [t]) (vs := us) h
  refine ⟨?_, this.2⟩
  exact this.1.2 0 (by simp)
theorem sameT_iff {a b : Tok} : sameT a b = true ↔ a.kind = b.kind ∧ a.num = b.num ∧ a.text = b.text := by
  simp [sameT, and_assoc]
theorem At.sym {ts us : List Tok} {x : Bytes} {i : Nat} (h : At ts i (symK x :: us)) : (tk ts i).kind = 5 ∧ (tk ts i).text = x ∧ At ts (i + 1) us := by
  obtain ⟨h1, h2⟩ := h.head
  obtain ⟨a, b, c⟩ := sameT_iff.1 h1
  exact ⟨a, c, h2⟩
theorem At.word {ts us : List Tok} {x : Bytes} {i : Nat} (h : At ts i (wordK x :: us)) : (tk ts i).kind = 1 ∧ (tk ts i).text = x ∧ At ts (i + 1) us := by
  obtain ⟨h1, h2⟩ := h.head
  obtain ⟨a, b, c⟩ := sameT_iff.1 h1
  exact ⟨a, c, h2⟩
theorem isSym_mk {t : Tok} {x y : Bytes} (h : t.kind = 5) (h2 : t.text = x) : isSym t y = (x == y) := by unfold isSym; rw [h, h2]; rfl
theorem isWord_mk {t : Tok} {x y : Bytes} (h : t.kind = 1) (h2 : t.text = x) : isWord t y = (x == y) := by unfold isWord; rw [h, h2]; rfl
theorem isSym_no {t : Tok} {y : Bytes} (h : t.kind ≠ 5) : isSym t y = false := by unfold isSym; rw [beq_eq_false_iff_ne.2 h]; rfl
theorem isWord_no {t : Tok} {y : Bytes} (h : t.kind ≠ 1) : isWord t y = false := by unfold isWord; rw [beq_eq_false_iff_ne.2 h]; rfl
theorem sameL_len : ∀ {a b : List Tok}, sameL a b = true → a.length = b.length
  | [], [], _ => rfl
  | [], _ :: _, h => by cases h
  | _ :: _, [], h => by cases h
  | x :: a, y :: b, h => by
    simp only [sameL, Bool.and_eq_true] at h
    simp [sameL_len h.2]
theorem sameL_get : ∀ {a b : List Tok} (h : sameL a b = true) (k : Nat) (h1 : k < a.length) (h2 : k < b.length), sameT a[k] b[k] = true
  | [], [], _, k, h1, _ => by simp at h1
  | [], _ :: _, h, _, _, _ => by cases h
  | _ :: _, [], h, _, _, _ => by cases h
  | x :: a, y :: b, h, 0, _, _ => by
    simp only [sameL, Bool.and_eq_true] at h
    exact h.1
  | x :: a, y :: b, h, k + 1, h1, h2 => by
    simp only [sameL, Bool.and_eq_true] at h
    exact sameL_get h.2 k _ _
theorem At.of_same {zs us : List Tok} {t : Tok} (h : sameL zs us = true) : At (zs ++ [t]) 0 us := by
  have hl := sameL_len h
  refine ⟨by simp; omega, fun k hk => ?_⟩
  rw [Nat.zero_add, tk_eq (by simp; omega), List.getElem_append_left (by omega)]
  exact sameL_get h k (by omega) hk
end Go.Proofs.YtlfedcbihbigoaaGreatDoor

namespace Go.Proofs.YtlfedcbihbigoaaGreatDoor
open Go.RowKit
/-- A token that goes on with nothing of level l or tighter. -/
def Quiet (l : Nat) (t : Tok) : Prop := isSym t [40] = false ∧ (∀ m, l ≤ m → opOf m t = none) ∧ (l ≤ 3 → cmpOf t = none)
theorem Quiet.mono {l m : Nat} {t : Tok} (h : Quiet l t) (hm : l ≤ m) : Quiet m t :=
  ⟨h.1, fun k hk => h.2.1 k (by omega), fun hk => h.2.2 (by omega)⟩
theorem quiet_end {t : Tok} (h : t.kind = 0) (l : Nat) : Quiet l t := by
  have a : ∀ x, isSym t x = false := fun x => isSym_no (by omega)
  have b : ∀ x, isWord t x = false := fun x => isWord_no (by omega)
  refine ⟨a _, fun m _ => ?_, fun _ => ?_⟩
  · unfold opOf; simp [a, b]
  · unfold cmpOf; simp [a]
theorem quiet_sym {t : Tok} {x : Bytes} (h : t.kind = 5) (h2 : t.text = x) (hx : x = [41] ∨ x = [44]) (l : Nat) : Quiet l t := by
  have b : ∀ y, isWord t y = false := fun y => isWord_no (by omega)
  have a : ∀ y, isSym t y = (x == y) := fun y => isSym_mk h h2
  refine ⟨by rw [a]; rcases hx with rfl | rfl <;> rfl, fun m _ => ?_, fun _ => ?_⟩
  · unfold opOf; simp only [a, b]; rcases hx with rfl | rfl <;> simp
  · unfold cmpOf; simp only [a]; rcases hx with rfl | rfl <;> rfl
/-- What must hold of a piece that stands for some nodes. -/
structure Gd (es : List Nd) (p : Pc) (T : List Tok) (c : Nat) : Prop where
  lv : 0 ≤ p.level ∧ p.level ≤ 8
  emit : Emit p.text T
  len : T ≠ []
  top : ∀ (ts : List Tok) (F l i d : Nat), valT ts = true → At ts i T → (l : Int) = p.level → Quiet l (tk ts (i + T.length)) → d + c ≤ 256 → prs ts F l i d ≠ .out → prs ts F l i d = .ok es (i + T.length)
  chn : ∀ (ts : List Tok) (F l i d : Nat), valT ts = true → At ts i T → (l : Int) = p.level → l = 0 ∨ l = 1 ∨ l = 4 ∨ l = 5 ∨ l = 6 → Quiet (l + 1) (tk ts (i + T.length)) → d + c ≤ 256 → prs ts (F + 1) l i d ≠ .out →
    ∃ G, prs ts (F + 1) l i d = chainG (fun j => prs ts F (l + 1) j d) (opOf l) ts G es (i + T.length)
  notw : 3 ≤ p.level → ∀ ts i, At ts i T → isWord (tk ts i) wNot = false
  beg : 7 ≤ p.level → ∀ ts i, At ts i T → isSym (tk ts (i + T.length)) [40] = false → begB ts i = true
  nsym : p.level = 8 → ∀ ts i, At ts i T → isSym (tk ts i) [45] = false
  nint : p.num = false → 7 ≤ p.level → ∀ ts i, At ts i T → (tk ts i).kind ≠ 2
  ncl : ∀ ts i, At ts i T → isSym (tk ts i) [41] = false
theorem bind_in {r : PR} {k : List Nd → Nat → PR} (h : r.bind k ≠ .out) : r ≠ .out := by
  rintro rfl; exact h rfl
theorem chainG_stop {p : Nat → PR} {op : Tok → Option Int} {ts : List Tok} {G : Nat} {es : List Nd} {i : Nat} (h : chainG p op ts G es i ≠ .out) (ho : op (tk ts i) = none) : chainG p op ts G es i = .ok es i := by
  cases G with
  | zero => exact absurd rfl h
  | succ G => unfold chainG; rw [ho]
theorem prs_chG (ts : List Tok) (F l i d : Nat) (hl : l = 0 ∨ l = 1 ∨ l = 4 ∨ l = 5 ∨ l = 6) : prs ts (F + 1) l i d = (prs ts F (l + 1) i d).bind (chainG (fun j => prs ts F (l + 1) j d) (opOf l) ts ts.length) := by
  conv => lhs; unfold prs
  rw [if_neg (by omega), if_neg (by omega), if_neg (by omega), if_neg (by omega)]
  rfl
theorem prs_two (ts : List Tok) (F i d : Nat) : prs ts (F + 1) 2 i d = if isWord (tk ts i) wNot = true then (if 256 < d then .err 2 i else (prs ts F 2 (i + 1) (d + 1)).bind fun es j => .ok (es ++ [opNd 2]) j) else prs ts F 3 i d := rfl
theorem prs_three (ts : List Tok) (F i d : Nat) : prs ts (F + 1) 3 i d = (prs ts F 4 i d).bind fun es j => match cmpOf (tk ts j) with
    | none => .ok es j
    | some (o, b) => (prs ts F 4 (j + 1) d).bind fun fs m => .ok ((if b = true then fs ++ es else es ++ fs) ++ [opNd o]) m := rfl
theorem prs_seven (ts : List Tok) (F i d : Nat) : prs ts (F + 1) 7 i d = if begB ts i = false then .err 3 i
  else if 256 < d then .err 2 i
  else if isSym (tk ts i) [45] = true then
    if (tk ts (i + 1)).kind = 2 then .ok [cNd 2 (-(tk ts (i + 1)).num) []] (i + 2)
    else (prs ts F 7 (i + 1) (d + 1)).bind fun es j => .ok (es ++ [opNd 3]) j
  else prs ts F 8 i d := rfl
theorem prs_eight (ts : List Tok) (F i d : Nat) : prs ts (F + 1) 8 i d = primP (fun l i d => prs ts F l i d) ts i d := rfl
/-- A piece is read at its level and at every looser one. -/
theorem Gd.rd {es : List Nd} {p : Pc} {T : List Tok} {c : Nat} (g : Gd es p T c) : ∀ (n : Nat) (ts : List Tok) (F l i d : Nat), valT ts = true → At ts i T → p.level = (l : Int) + n → Quiet l (tk ts (i + T.length)) → d + c ≤ 256 → prs ts F l i d ≠ .out → prs ts F l i d = .ok es (i + T.length)
  | 0, ts, F, l, i, d, hv, ha, hl, hq, hd, ho => g.top ts F l i d hv ha (by omega) hq hd ho
  | n + 1, ts, 0, l, i, d, hv, ha, hl, hq, hd, ho => absurd rfl ho
  | n + 1, ts, F + 1, l, i, d, hv, ha, hl, hq, hd, ho => by
    have hl8 := g.lv.2
    have ih := fun hn => Gd.rd g n ts F (l + 1) i d hv ha (by omega) (hq.mono (by omega)) hd hn
    have ch : (l = 0 ∨ l = 1 ∨ l = 4 ∨ l = 5 ∨ l = 6) ∨ l = 2 ∨ l = 3 ∨ l = 7 := by omega
    rcases ch with hc | rfl | rfl | rfl
    · rw [prs_chG _ _ _ _ _ hc] at ho ⊢
      have h1 := ih (bind_in ho)
      rw [h1] at ho ⊢
      exact chainG_stop ho (hq.2.1 l (Nat.le_refl _))
    · rw [prs_two] at ho ⊢
      rw [if_neg (by rw [g.notw (by omega) ts i ha]; simp)] at ho ⊢
      exact ih ho
    · rw [prs_three] at ho ⊢
      have h1 := ih (bind_in ho)
      rw [h1]
      show (match cmpOf (tk ts (i + T.length)) with | none => _ | some (o, b) => _) = _
      rw [hq.2.2 (by omega)]
    · rw [prs_seven] at ho ⊢
      rw [if_neg (by rw [g.beg (by omega) ts i ha hq.1]; simp), if_neg (by omega), if_neg (by rw [g.nsym (by omega) ts i ha]; simp)] at ho ⊢
      exact ih ho
/-- A piece at a level of a chain: what is read of it goes on as a chain. -/
theorem Gd.chain {es : List Nd} {p : Pc} {T : List Tok} {c : Nat} (g : Gd es p T c) {ts : List Tok} {F l i d : Nat} (hv : valT ts = true) (ha : At ts i T) (hl : (l : Int) ≤ p.level) (hc : l = 0 ∨ l = 1 ∨ l = 4 ∨ l = 5 ∨ l = 6)
    (hq : Quiet (l + 1) (tk ts (i + T.length))) (hd : d + c ≤ 256) (ho : prs ts (F + 1) l i d ≠ .out) : ∃ G, prs ts (F + 1) l i d = chainG (fun j => prs ts F (l + 1) j d) (opOf l) ts G es (i + T.length) := by
  by_cases e : (l : Int) = p.level
  · exact g.chn ts F l i d hv ha e hc hq hd ho
  · rw [prs_chG _ _ _ _ _ hc] at ho ⊢
    have h8 := g.lv.2
    have h1 := Gd.rd g (p.level - (l + 1)).toNat ts F (l + 1) i d hv ha (by omega) hq hd (bind_in ho)
    rw [h1]
    exact ⟨_, rfl⟩
theorem Gd.read {es : List Nd} {p : Pc} {T : List Tok} {c : Nat} (g : Gd es p T c) {ts : List Tok} {F l i d : Nat} (hv : valT ts = true) (ha : At ts i T) (hl : (l : Int) ≤ p.level) (hq : Quiet l (tk ts (i + T.length))) (hd : d + c ≤ 256) (ho : prs ts F l i d ≠ .out) :
    prs ts F l i d = .ok es (i + T.length) := Gd.rd g (p.level - l).toNat ts F l i d hv ha (by omega) hq hd ho
theorem Gd.mono {es : List Nd} {p : Pc} {T : List Tok} {c c' : Nat} (g : Gd es p T c) (h : c ≤ c') : Gd es p T c' :=
  ⟨g.lv, g.emit, g.len, fun ts F l i d hv ha hl hq hd ho => g.top ts F l i d hv ha hl hq (by omega) ho, fun ts F l i d hv ha hl hc hq hd ho => g.chn ts F l i d hv ha hl hc hq (by omega) ho, g.notw, g.beg, g.nsym, g.nint, g.ncl⟩
/-! ### in parentheses -/
def Pc.par (p : Pc) : Pc := ⟨[40] ++ p.text ++ [41], 8, false⟩
theorem stop_41 (x : Bytes) : StopC (41 :: x) := ⟨41, x, rfl, by decide⟩
theorem stop_44 (x : Bytes) : StopC (44 :: x) := ⟨44, x, rfl, by decide⟩
theorem stop_40 (x : Bytes) : StopC (40 :: x) := ⟨40, x, rfl, by decide⟩
theorem stop_32 (x : Bytes) : StopC (32 :: x) := ⟨32, x, rfl, by decide⟩
/-- A piece of the tightest level: the head's facts and one reading. -/
theorem Gd.prim {es : List Nd} {x : Bytes} {b : Bool} {T : List Tok} {c : Nat} (he : Emit x T) (hn : T ≠ [])
    (hp : ∀ (ts : List Tok) (F i d : Nat), valT ts = true → At ts i T → isSym (tk ts (i + T.length)) [40] = false → d + c ≤ 256 → primP (fun l i d => prs ts F l i d) ts i d ≠ .out → primP (fun l i d => prs ts F l i d) ts i d = .ok es (i + T.length))
    (hh : ∀ ts i, At ts i T → isWord (tk ts i) wNot = false ∧ isSym (tk ts i) [45] = false ∧ (b = false → (tk ts i).kind ≠ 2) ∧ (isSym (tk ts (i + T.length)) [40] = false → begB ts i = true) ∧ isSym (tk ts i) [41] = false) : Gd es ⟨x, 8, b⟩ T c where
  lv := ⟨by simp, by simp⟩
  emit := he
  len := hn
  top := fun ts F l i d hv ha hl hq hd ho => by
    obtain rfl : l = 8 := by simp only at hl; omega
    cases F with
    | zero => exact absurd rfl ho
    | succ F => rw [prs_eight] at ho ⊢; exact hp ts F i d hv ha hq.1 hd ho
  chn := fun ts F l i d hv ha hl hc => by simp only at hl; omega
  notw := fun _ ts i ha => (hh ts i ha).1
  beg := fun _ ts i ha hq => (hh ts i ha).2.2.2.1 hq
  nsym := fun _ ts i ha => (hh ts i ha).2.1
  nint := fun hb _ ts i ha => (hh ts i ha).2.2.1 hb
  ncl := fun ts i ha => (hh ts i ha).2.2.2.2
theorem primP_sym {q : Nat → Nat → Nat → PR} {ts : List Tok} {i d : Nat} (h : (tk ts i).kind = 5) : primP q ts i d = (q 0 (i + 1) (d + 1)).bind fun es j => if isSym (tk ts j) [41] = true then .ok es (j + 1) else .err 3 j := by
  unfold primP
  rw [if_neg (by omega), if_neg (by omega), if_neg (by omega), if_pos h]
theorem Gd.par {es : List Nd} {p : Pc} {T : List Tok} {c : Nat} (g : Gd es p T c) : Gd es p.par (symK [40] :: (T ++ [symK [41]])) (c + 1) := by
  refine Gd.prim ?_ (by simp) ?_ ?_
  · rw [List.append_assoc]
    exact emit_open.app (g.emit.app (emit_sym (by decide)) (stop_41 _))
  · intro ts F i d hv ha hq hd ho
    obtain ⟨k1, k2, a1⟩ := ha.sym
    obtain ⟨a2, a3⟩ := a1.app
    obtain ⟨k3, k4, a4⟩ := a3.sym
    rw [primP_sym k1] at ho ⊢
    have h1 := g.read hv a2 g.lv.1 (quiet_sym k3 k4 (.inl rfl) 0) (by omega) (bind_in ho)
    rw [h1]
    show (if isSym (tk ts (i + 1 + T.length)) [41] = true then PR.ok es (i + 1 + T.length + 1) else _) = _
    rw [if_pos (by rw [isSym_mk k3 k4]; rfl)]
    congr 1
    simp; omega
  · intro ts i ha
    obtain ⟨k1, k2, a1⟩ := ha.sym
    refine ⟨isWord_no (by omega), by rw [isSym_mk k1 k2]; rfl, fun _ => by omega, fun _ => ?_, by rw [isSym_mk k1 k2]; rfl⟩
    unfold begB
    rw [if_neg (by omega), if_neg (by omega), isSym_mk k1 k2, isSym_mk k1 k2]; rfl
/-- A piece at a place that needs a level. -/
def Pc.atP (p : Pc) (l : Int) : Pc := if p.level < l then p.par else p
def atT (p : Pc) (T : List Tok) (l : Int) : List Tok := if p.level < l then symK [40] :: (T ++ [symK [41]]) else T
theorem Pc.atP_text (p : Pc) (l : Int) : p.at' l = (p.atP l).text := by
  unfold Pc.at' Pc.atP; split <;> rfl
theorem Gd.at_ {es : List Nd} {p : Pc} {T : List Tok} {c : Nat} (g : Gd es p T c) (l : Int) (hl : l ≤ 8) : Gd es (p.atP l) (atT p T l) (c + 1) ∧ l ≤ (p.atP l).level ∧ ((p.atP l).num = true → p.num = true) := by
  unfold Pc.atP atT
  split
  · exact ⟨g.par, hl, fun h => by cases h⟩
  · exact ⟨g.mono (by omega), by omega, fun h => h⟩
end Go.Proofs.YtlfedcbihbigoaaGreatDoor

namespace Go.Proofs.YtlfedcbihbigoaaGreatDoor
open Go.RowKit
def litT (v : Vl) : List Tok :=
  if v.kind = 1 then [wordK (if v.num = 1 then wTrue else wFalse)]
  else if v.kind = 2 then (if v.num < 0 then [symK [45], ⟨2, [], -v.num, 0⟩] else [⟨2, [], v.num, 0⟩])
  else if v.kind = 3 then [⟨3, v.text, 0, 0⟩]
  else if v.kind = 4 then [⟨4, [], v.num, 0⟩]
  else [wordK wNull]
theorem At.kind {ts : List Tok} {i : Nat} {t : Tok} {us : List Tok} (h : At ts i (t :: us)) : (tk ts i).kind = t.kind ∧ (tk ts i).num = t.num ∧ (tk ts i).text = t.text := sameT_iff.1 h.head.1
theorem gd_word {x : Bytes} {n : Int} (hx : isQualB 24 x = true) (hm : (x = wTrue ∧ n = 1) ∨ (x = wFalse ∧ n = 0)) : Gd [cNd 1 n []] ⟨x, 8, false⟩ [wordK x] 0 := by
  refine Gd.prim (emit_word hx) (by simp) ?_ ?_
  · intro ts F i d hv ha hq hd ho
    obtain ⟨k1, k2, _⟩ := ha.word
    unfold primP
    rw [if_neg (by omega), if_neg (by omega), if_neg (by omega), if_neg (by omega)]
    unfold namP
    rcases hm with ⟨rfl, rfl⟩ | ⟨rfl, rfl⟩
    · rw [if_neg (by rw [k2]; decide), if_pos k2]; rfl
    · rw [if_neg (by rw [k2]; decide), if_neg (by rw [k2]; decide), if_pos k2]; rfl
  · intro ts i ha
    obtain ⟨k1, k2, _⟩ := ha.word
    refine ⟨by rw [isWord_mk k1 k2]; rcases hm with ⟨rfl, _⟩ | ⟨rfl, _⟩ <;> rfl, isSym_no (by omega), fun _ => by omega, fun _ => ?_, isSym_no (by omega)⟩
    unfold begB
    rw [if_neg (by omega), if_pos k1, if_pos (by rw [k2]; rcases hm with ⟨rfl, _⟩ | ⟨rfl, _⟩ <;> simp)]
theorem gd_null : Gd [cNd 0 0 []] ⟨wNull, 8, false⟩ [wordK wNull] 0 := by
  refine Gd.prim (emit_word (by decide)) (by simp) ?_ ?_
  · intro ts F i d hv ha hq hd ho
    obtain ⟨k1, k2, _⟩ := ha.word
    unfold primP
    rw [if_neg (by omega), if_neg (by omega), if_neg (by omega), if_neg (by omega)]
    unfold namP
    rw [if_pos k2]; rfl
  · intro ts i ha
    obtain ⟨k1, k2, _⟩ := ha.word
    refine ⟨by rw [isWord_mk k1 k2]; rfl, isSym_no (by omega), fun _ => by omega, fun _ => ?_, isSym_no (by omega)⟩
    unfold begB
    rw [if_neg (by omega), if_pos k1, if_pos (.inl k2)]
theorem gd_int {n : Int} (h0 : 0 ≤ n) (h1 : n ≤ 1073741824) : Gd [cNd 2 n []] ⟨Lib.decDigits n.toNat, 8, true⟩ [⟨2, [], n, 0⟩] 0 := by
  refine Gd.prim (emit_tok (t := ⟨2, [], n, 0⟩) (by show okTok 2 [] n = true; rw [okTok_2]; simp; omega) (by show (2 : Int) ≠ 0; decide)) (by simp) ?_ ?_
  · intro ts F i d hv ha hq hd ho
    obtain ⟨k1, k2, k3⟩ := ha.kind
    unfold primP
    rw [if_pos k1, k2]; rfl
  · intro ts i ha
    obtain ⟨k1, k2, k3⟩ := ha.kind
    simp only at k1
    refine ⟨isWord_no (by omega), isSym_no (by omega), fun h => (by cases h), fun _ => ?_, isSym_no (by omega)⟩
    unfold begB
    rw [if_pos (.inl k1)]
theorem gd_text {x : Bytes} (h : x.length ≤ 64) : Gd [cNd 3 0 x] ⟨quoteS x, 8, false⟩ [⟨3, x, 0, 0⟩] 0 := by
  refine Gd.prim (emit_tok (t := ⟨3, x, 0, 0⟩) (by show okTok 3 x 0 = true; rw [okTok_3]; simp; omega) (by show (3 : Int) ≠ 0; decide)) (by simp) ?_ ?_
  · intro ts F i d hv ha hq hd ho
    obtain ⟨k1, k2, k3⟩ := ha.kind
    simp only at k1
    unfold primP
    rw [if_neg (by omega), if_pos k1, k3]; rfl
  · intro ts i ha
    obtain ⟨k1, k2, k3⟩ := ha.kind
    simp only at k1
    refine ⟨isWord_no (by omega), isSym_no (by omega), fun h => (by omega), fun _ => ?_, isSym_no (by omega)⟩
    unfold begB
    rw [if_pos (.inr (.inl k1))]
theorem gd_time {n : Int} (h0 : 0 ≤ n) (h1 : n ≤ 575999999) : Gd [cNd 4 n []] ⟨64 :: fmtS n, 8, false⟩ [⟨4, [], n, 0⟩] 0 := by
  refine Gd.prim (emit_tok (t := ⟨4, [], n, 0⟩) (by show okTok 4 [] n = true; rw [okTok_4]; simp; omega) (by show (4 : Int) ≠ 0; decide)) (by simp) ?_ ?_
  · intro ts F i d hv ha hq hd ho
    obtain ⟨k1, k2, k3⟩ := ha.kind
    simp only at k1
    unfold primP
    rw [if_neg (by omega), if_neg (by omega), if_pos k1, k2]; rfl
  · intro ts i ha
    obtain ⟨k1, k2, k3⟩ := ha.kind
    simp only at k1
    refine ⟨isWord_no (by omega), isSym_no (by omega), fun h => (by omega), fun _ => ?_, isSym_no (by omega)⟩
    unfold begB
    rw [if_pos (.inr (.inr k1))]
theorem begB_minus {ts : List Tok} {i : Nat} (k1 : (tk ts i).kind = 5) (k2 : (tk ts i).text = [45]) : begB ts i = true := by
  unfold begB
  rw [if_neg (by omega), if_neg (by omega), isSym_mk k1 k2]; rfl
theorem gd_neg_int {n : Int} (h0 : n < 0) (h1 : -1073741824 ≤ n) : Gd [cNd 2 n []] ⟨[45] ++ Lib.decDigits (-n).toNat, 7, true⟩ [symK [45], ⟨2, [], -n, 0⟩] 0 where
  lv := ⟨by simp, by simp⟩
  emit := emit_minus.app (emit_tok (t := ⟨2, [], -n, 0⟩) (by show okTok 2 [] (-n) = true; rw [okTok_2]; simp; omega) (by show (2 : Int) ≠ 0; decide))
  len := by simp
  top := fun ts F l i d hv ha hl hq hd ho => by
    obtain rfl : l = 7 := by simp only at hl; omega
    obtain ⟨k1, k2, a1⟩ := ha.sym
    obtain ⟨k3, k4, k5⟩ := a1.kind
    cases F with
    | zero => exact absurd rfl ho
    | succ F =>
      rw [prs_seven, if_neg (by rw [begB_minus k1 k2]; simp), if_neg (by omega), if_pos (by rw [isSym_mk k1 k2]; rfl), if_pos k3, k4]
      show PR.ok [cNd 2 (- -n) []] _ = _
      rw [Int.neg_neg]; rfl
  chn := fun ts F l i d hv ha hl hc => by simp only at hl; omega
  notw := fun _ ts i ha => by obtain ⟨k1, k2, a1⟩ := ha.sym; exact isWord_no (by omega)
  beg := fun _ ts i ha _ => by obtain ⟨k1, k2, a1⟩ := ha.sym; exact begB_minus k1 k2
  nsym := fun h => by simp only at h; omega
  nint := fun h => by cases h
  ncl := fun ts i ha => by obtain ⟨k1, k2, a1⟩ := ha.sym; rw [isSym_mk k1 k2]; rfl
theorem gd_lit {v : Vl} (h : validV v.kind v.num v.text = true) : Gd [⟨0, v, [], 0⟩] (litP v) (litT v) 0 := by
  obtain ⟨k, n, x⟩ := v
  simp only at h
  rcases validV_cases h with ⟨rfl, rfl, rfl⟩ | ⟨rfl, hn, rfl⟩ | ⟨rfl, h1, h2, rfl⟩ | ⟨rfl, rfl, hx⟩ | ⟨rfl, h1, h2, rfl⟩
  · exact gd_null
  · rcases hn with rfl | rfl
    · exact gd_word (x := wFalse) (by decide) (.inr ⟨rfl, rfl⟩)
    · exact gd_word (x := wTrue) (by decide) (.inl ⟨rfl, rfl⟩)
  · by_cases hn : n < 0
    · have e1 : litP ⟨2, n, []⟩ = ⟨[45] ++ Lib.decDigits (-n).toNat, 7, true⟩ := by unfold litP; simp [hn]
      have e2 : litT ⟨2, n, []⟩ = [symK [45], ⟨2, [], -n, 0⟩] := by unfold litT; simp [hn]
      rw [e1, e2]; exact gd_neg_int hn h1
    · have e1 : litP ⟨2, n, []⟩ = ⟨Lib.decDigits n.toNat, 8, true⟩ := by unfold litP; simp [hn]
      have e2 : litT ⟨2, n, []⟩ = [⟨2, [], n, 0⟩] := by unfold litT; simp [hn]
      rw [e1, e2]; exact gd_int (by omega) h2
  · exact gd_text hx
  · exact gd_time h1 h2
theorem res_words {x : Bytes} (h : resB x = false) : wordsS.contains x = false ∧ x ≠ wNull ∧ x ≠ wTrue ∧ x ≠ wFalse ∧ x ≠ wNot := by
  have h : wordsS.contains x = false := h
  refine ⟨h, ?_, ?_, ?_, ?_⟩ <;> (rintro rfl; exact absurd h (by decide))
theorem gd_col {x : Bytes} (hx : isNameB 24 x = true) (hr : resB x = false) : Gd [⟨1, vl0, x, 0⟩] ⟨x, 8, false⟩ [wordK x] 0 := by
  obtain ⟨r0, r1, r2, r3, r4⟩ := res_words hr
  refine Gd.prim (emit_word (isQualB_name hx)) (by simp) ?_ ?_
  · intro ts F i d hv ha hq hd ho
    obtain ⟨k1, k2, _⟩ := ha.word
    unfold primP
    rw [if_neg (by omega), if_neg (by omega), if_neg (by omega), if_neg (by omega)]
    unfold namP
    rw [k2, if_neg r1, if_neg r2, if_neg r3, if_neg (by rw [show i + 1 = i + [wordK x].length from rfl, hq]; simp)]; rfl
  · intro ts i ha
    obtain ⟨k1, k2, _⟩ := ha.word
    refine ⟨by rw [isWord_mk k1 k2]; exact beq_eq_false_iff_ne.2 r4, isSym_no (by omega), fun _ => by omega, fun _ => ?_, isSym_no (by omega)⟩
    unfold begB
    rw [if_neg (by omega), if_pos k1, k2, if_neg (by simp [r1, r2, r3]), r0, hx]; simp
theorem gd_not {es : List Nd} {p : Pc} {T : List Tok} {c : Nat} (g : Gd es p T c) (hl : 2 ≤ p.level) : Gd (es ++ [opNd 2]) ⟨[110, 111, 116, 32] ++ p.text, 2, false⟩ (wordK wNot :: T) (c + 1) where
  lv := ⟨by simp, by simp⟩
  emit := Emit.app (x := wNot) (us := [wordK wNot]) (emit_word (by decide)) g.emit.blank (stop_32 _)
  len := by simp
  top := fun ts F l i d hv ha hl2 hq hd ho => by
    obtain rfl : l = 2 := by simp only at hl2; omega
    obtain ⟨k1, k2, a1⟩ := ha.word
    have e : i + (wordK wNot :: T).length = i + 1 + T.length := by simp; omega
    rw [e] at hq ⊢
    cases F with
    | zero => exact absurd rfl ho
    | succ F =>
      rw [prs_two, if_pos (by rw [isWord_mk k1 k2]; rfl), if_neg (by omega)] at ho ⊢
      rw [g.read hv a1 (by omega) hq (by omega) (bind_in ho)]; rfl
  chn := fun ts F l i d hv ha hl hc => by simp only at hl; omega
  notw := fun h => by simp only at h; omega
  beg := fun h => by simp only at h; omega
  nsym := fun h => by simp only at h; omega
  nint := fun _ h => by simp only at h; omega
  ncl := fun ts i ha => by obtain ⟨k1, k2, a1⟩ := ha.word; exact isSym_no (by omega)
theorem gd_neg {es : List Nd} {p : Pc} {T : List Tok} {c : Nat} (g : Gd es p T c) (hl : 7 ≤ p.level) (hn : p.num = false) : Gd (es ++ [opNd 3]) ⟨[45] ++ p.text, 7, false⟩ (symK [45] :: T) (c + 1) where
  lv := ⟨by simp, by simp⟩
  emit := emit_minus.app g.emit
  len := by simp
  top := fun ts F l i d hv ha hl2 hq hd ho => by
    obtain rfl : l = 7 := by simp only at hl2; omega
    obtain ⟨k1, k2, a1⟩ := ha.sym
    have e : i + (symK [45] :: T).length = i + 1 + T.length := by simp; omega
    rw [e] at hq ⊢
    cases F with
    | zero => exact absurd rfl ho
    | succ F =>
      rw [prs_seven, if_neg (by rw [begB_minus k1 k2]; simp), if_neg (by omega), if_pos (by rw [isSym_mk k1 k2]; rfl), if_neg (g.nint hn hl _ _ a1)] at ho ⊢
      rw [g.read hv a1 (by omega) hq (by omega) (bind_in ho)]; rfl
  chn := fun ts F l i d hv ha hl hc => by simp only at hl; omega
  notw := fun _ ts i ha => by obtain ⟨k1, k2, a1⟩ := ha.sym; exact isWord_no (by omega)
  beg := fun _ ts i ha _ => by obtain ⟨k1, k2, a1⟩ := ha.sym; exact begB_minus k1 k2
  nsym := fun h => by simp only at h; omega
  nint := fun _ _ ts i ha => by obtain ⟨k1, k2, a1⟩ := ha.sym; omega
  ncl := fun ts i ha => by obtain ⟨k1, k2, a1⟩ := ha.sym; rw [isSym_mk k1 k2]; rfl
theorem chainG_some {p : Nat → PR} {op : Tok → Option Int} {ts : List Tok} {G : Nat} {es : List Nd} {i : Nat} {o : Int} (h : op (tk ts i) = some o) : chainG p op ts (G + 1) es i = (p (i + 1)).bind fun fs j => chainG p op ts G (es ++ fs ++ [opNd o]) j := by
  show (match op (tk ts i) with | none => _ | some o => _) = _
  rw [h]
theorem emit_bin {p q : Pc} {T U : List Tok} {t : Bytes} {o : Tok} (hp : Emit p.text T) (hq : Emit q.text U) (ht : Emit t [o]) : Emit (p.text ++ [32] ++ t ++ [32] ++ q.text) (T ++ o :: U) := by
  have h1 : Emit (t ++ (32 :: q.text)) ([o] ++ U) := ht.app hq.blank (stop_32 _)
  have h2 := hp.app h1.blank (stop_32 _)
  have e : p.text ++ [32] ++ t ++ [32] ++ q.text = p.text ++ (32 :: (t ++ (32 :: q.text))) := by simp
  rw [e]; exact h2
theorem gd_chn {es fs : List Nd} {p q : Pc} {T U : List Tok} {c : Nat} (l : Nat) {o : Int} {t : Bytes} {k : Tok} (hc : l = 0 ∨ l = 1 ∨ l = 4 ∨ l = 5 ∨ l = 6) (g : Gd es p T c) (gq : Gd fs q U c) (hl : (l : Int) ≤ p.level) (hr : ((l + 1 : Nat) : Int) ≤ q.level)
    (ht : Emit t [k]) (ho : ∀ u, sameT u k = true → opOf l u = some o ∧ Quiet (l + 1) u) : Gd (es ++ fs ++ [opNd o]) ⟨p.text ++ [32] ++ t ++ [32] ++ q.text, l, false⟩ (T ++ k :: U) c := by
  have key : ∀ (ts : List Tok) (F i d : Nat), valT ts = true → At ts i (T ++ k :: U) → Quiet (l + 1) (tk ts (i + (T ++ k :: U).length)) → d + c ≤ 256 → prs ts (F + 1) l i d ≠ .out →
      ∃ G, prs ts (F + 1) l i d = chainG (fun j => prs ts F (l + 1) j d) (opOf l) ts G (es ++ fs ++ [opNd o]) (i + (T ++ k :: U).length) := by
    intro ts F i d hv ha hq hd hn
    obtain ⟨a1, a2⟩ := ha.app
    obtain ⟨a3, a4⟩ := a2.head
    obtain ⟨o1, o2⟩ := ho _ a3
    have e : i + (T ++ k :: U).length = i + T.length + 1 + U.length := by simp; omega
    rw [e] at hq ⊢
    obtain ⟨G, hG⟩ := g.chain hv a1 hl hc o2 hd hn
    rw [hG] at hn ⊢
    cases G with
    | zero => exact absurd rfl hn
    | succ G =>
      rw [chainG_some o1] at hn ⊢
      have h2 := gq.read hv a4 hr hq hd (bind_in hn)
      rw [h2]
      exact ⟨G, rfl⟩
  have hh : ∀ ts i, At ts i (T ++ k :: U) → At ts i T := fun ts i ha => ha.app.1
  exact {
    lv := ⟨by simp only; omega, by simp only; omega⟩
    emit := emit_bin g.emit gq.emit ht
    len := by simp
    top := fun ts F m i d hv ha hm hq hd hn => by
      obtain rfl : m = l := by simp only at hm; omega
      cases F with
      | zero => exact absurd rfl hn
      | succ F =>
        obtain ⟨G, hG⟩ := key ts F i d hv ha (hq.mono (by omega)) hd hn
        rw [hG] at hn ⊢
        exact chainG_stop hn (hq.2.1 m (Nat.le_refl _))
    chn := fun ts F m i d hv ha hm hc2 hq hd hn => by
      obtain rfl : m = l := by simp only at hm; omega
      exact key ts F i d hv ha hq hd hn
    notw := fun h ts i ha => g.notw (by simp only at h; omega) ts i (hh ts i ha)
    beg := fun h => by simp only at h; omega
    nsym := fun h => by simp only at h; omega
    nint := fun _ h => by simp only at h; omega
    ncl := fun ts i ha => g.ncl ts i (hh ts i ha) }
theorem gd_cmp {es fs : List Nd} {p q : Pc} {T U : List Tok} {c : Nat} {o : Int} {t : Bytes} {k : Tok} (g : Gd es p T c) (gq : Gd fs q U c) (hl : 4 ≤ p.level) (hr : 4 ≤ q.level)
    (ht : Emit t [k]) (ho : ∀ u, sameT u k = true → cmpOf u = some (o, false) ∧ Quiet 4 u) : Gd (es ++ fs ++ [opNd o]) ⟨p.text ++ [32] ++ t ++ [32] ++ q.text, 3, false⟩ (T ++ k :: U) c := by
  have hh : ∀ ts i, At ts i (T ++ k :: U) → At ts i T := fun ts i ha => ha.app.1
  exact {
    lv := ⟨by simp, by simp⟩
    emit := emit_bin g.emit gq.emit ht
    len := by simp
    top := fun ts F m i d hv ha hm hq hd hn => by
      obtain rfl : m = 3 := by simp only at hm; omega
      obtain ⟨a1, a2⟩ := ha.app
      obtain ⟨a3, a4⟩ := a2.head
      obtain ⟨o1, o2⟩ := ho _ a3
      have e : i + (T ++ k :: U).length = i + T.length + 1 + U.length := by simp; omega
      rw [e] at hq ⊢
      cases F with
      | zero => exact absurd rfl hn
      | succ F =>
        rw [prs_three] at hn ⊢
        have h1 := g.read hv a1 (by omega) o2 hd (bind_in hn)
        rw [h1] at hn ⊢
        simp only [PR.bind, o1] at hn ⊢
        have h2 := gq.read hv a4 (by omega) (hq.mono (by omega)) hd (bind_in hn)
        rw [h2]
        rfl
    chn := fun ts F m i d hv ha hm hc2 => by simp only at hm; omega
    notw := fun h ts i ha => g.notw (by omega) ts i (hh ts i ha)
    beg := fun h => by simp only at h; omega
    nsym := fun h => by simp only at h; omega
    nint := fun _ h => by simp only at h; omega
    ncl := fun ts i ha => g.ncl ts i (hh ts i ha) }
theorem op_sym {l : Nat} {o : Int} {x : Bytes} (h : opOf l (symK x) = some o) (hq : (symK x).text ≠ [40]) (hn : ∀ m, l + 1 ≤ m → opOf m (symK x) = none) (hl : 3 ≤ l) : ∀ u, sameT u (symK x) = true → opOf l u = some o ∧ Quiet (l + 1) u := by
  intro u hu
  obtain ⟨a, b, c⟩ := sameT_iff.1 hu
  have e : ∀ m, opOf m u = opOf m (symK x) := fun m => by unfold opOf isSym isWord; rw [a, c]
  refine ⟨by rw [e]; exact h, ?_, fun m hm => by rw [e]; exact hn m hm, fun h3 => by omega⟩
  rw [isSym_mk a c]; exact beq_eq_false_iff_ne.2 hq
theorem op_word {l : Nat} {o : Int} {x : Bytes} (h : opOf l (wordK x) = some o) (hn : ∀ m, l + 1 ≤ m → opOf m (wordK x) = none) : ∀ u, sameT u (wordK x) = true → opOf l u = some o ∧ Quiet (l + 1) u := by
  intro u hu
  obtain ⟨a, b, c⟩ := sameT_iff.1 hu
  have a1 : u.kind = 1 := a
  have e : ∀ m, opOf m u = opOf m (wordK x) := fun m => by unfold opOf isSym isWord; rw [a, c]
  refine ⟨by rw [e]; exact h, isSym_no (by omega), fun m hm => by rw [e]; exact hn m hm, fun _ => ?_⟩
  unfold cmpOf
  simp [isSym_no (t := u) (by omega)]
theorem op_cmp {o : Int} {x : Bytes} (h : cmpOf (symK x) = some (o, false)) (hq : (symK x).text ≠ [40]) (hn : ∀ m, 4 ≤ m → opOf m (symK x) = none) : ∀ u, sameT u (symK x) = true → cmpOf u = some (o, false) ∧ Quiet 4 u := by
  intro u hu
  obtain ⟨a, b, c⟩ := sameT_iff.1 hu
  have e : ∀ m, opOf m u = opOf m (symK x) := fun m => by unfold opOf isSym isWord; rw [a, c]
  refine ⟨?_, ?_, fun m hm => by rw [e]; exact hn m hm, fun h3 => by omega⟩
  · rw [← h]; unfold cmpOf isSym; rw [a, c]
  · rw [isSym_mk a c]; exact beq_eq_false_iff_ne.2 hq
theorem opOf_big {m : Nat} {t : Tok} (h : 7 ≤ m) : opOf m t = none := by
  unfold opOf
  rw [if_neg (by omega), if_neg (by omega), if_neg (by omega), if_neg (by omega), if_neg (by omega)]
theorem opOf_all {l : Nat} {t : Tok} (h : ∀ m, m < 7 → l ≤ m → opOf m t = none) : ∀ m, l ≤ m → opOf m t = none := fun m hm => by
  rcases Nat.lt_or_ge m 7 with h7 | h7
  · exact h m h7 hm
  · exact opOf_big h7
end Go.Proofs.YtlfedcbihbigoaaGreatDoor

namespace Go.Proofs.YtlfedcbihbigoaaGreatDoor
open Go.RowKit
structure Pk where
  es : List Nd
  pc : Pc
  T : List Tok
  c : Nat
abbrev Pk.Good (k : Pk) : Prop := Gd k.es k.pc k.T k.c
def argT : List Pk → List Tok
  | [] => []
  | [k] => k.T
  | k :: m :: ks => k.T ++ symK [44] :: argT (m :: ks)
def allN (ks : List Pk) : List Nd := ks.flatMap Pk.es
theorem inter_two (x y : Bytes) (l : List Bytes) : List.intercalate [44, 32] (x :: y :: l) = x ++ [44, 32] ++ List.intercalate [44, 32] (y :: l) := by simp [List.intercalate, List.intersperse]
theorem emit_args : ∀ (k : Pk) (ks : List Pk), (∀ m ∈ k :: ks, m.Good) → Emit (List.intercalate [44, 32] ((k :: ks).map fun m => m.pc.text)) (argT (k :: ks))
  | k, [], h => by
    have := (h k (by simp)).emit
    simpa [List.intercalate, argT] using this
  | k, m :: ks, h => by
    have h1 := (h k (by simp)).emit
    have h2 := emit_args m ks (fun x hx => h x (List.mem_cons_of_mem _ hx))
    have h3 : Emit ([44] ++ (32 :: List.intercalate [44, 32] ((m :: ks).map fun m => m.pc.text))) ([symK [44]] ++ argT (m :: ks)) := (emit_sym (x := [44]) (by decide)).app h2.blank (stop_32 _)
    have h4 := h1.app h3 (stop_44 _)
    rw [List.map_cons, List.map_cons, inter_two]
    rw [List.map_cons] at h4
    have e : k.pc.text ++ [44, 32] ++ List.intercalate [44, 32] (m.pc.text :: ks.map fun m => m.pc.text) = k.pc.text ++ ([44] ++ (32 :: List.intercalate [44, 32] (m.pc.text :: ks.map fun m => m.pc.text))) := by simp
    rw [e]; exact h4
theorem args_read {ts : List Tok} {F d c : Nat} (hv : valT ts = true) (hd : d + c ≤ 256) (x : Bytes) : ∀ (ks : List Pk) (k : Pk) (G : Nat) (es : List Nd) (n i : Nat), (∀ m ∈ k :: ks, m.Good ∧ m.c ≤ c) → At ts i (argT (k :: ks) ++ [symK [41]]) → argsG (fun j => prs ts F 0 j d) x ts G es n i ≠ .out →
    argsG (fun j => prs ts F 0 j d) x ts G es n i = endS x (es ++ allN (k :: ks)) (n + (k :: ks).length) (i + (argT (k :: ks)).length)
  | ks, k, 0, es, n, i, hg, ha, ho => absurd rfl ho
  | [], k, G + 1, es, n, i, hg, ha, ho => by
    obtain ⟨g, gc⟩ := hg k (by simp)
    have ha : At ts i (k.T ++ [symK [41]]) := ha
    obtain ⟨a1, a2⟩ := ha.app
    obtain ⟨k1, k2, _⟩ := a2.sym
    unfold argsG at ho ⊢
    rw [g.read hv a1 g.lv.1 (quiet_sym k1 k2 (.inl rfl) 0) (by omega) (bind_in ho)]
    simp only [PR.bind]
    rw [if_neg (by rw [isSym_mk k1 k2]; decide), if_pos (by rw [isSym_mk k1 k2]; rfl)]
    simp [allN, argT]
  | m :: ks, k, G + 1, es, n, i, hg, ha, ho => by
    obtain ⟨g, gc⟩ := hg k (by simp)
    have ha : At ts i (k.T ++ symK [44] :: argT (m :: ks) ++ [symK [41]]) := ha
    rw [List.append_assoc, List.cons_append] at ha
    obtain ⟨a1, a2⟩ := ha.app
    obtain ⟨k1, k2, a3⟩ := a2.sym
    unfold argsG at ho ⊢
    have h1 := g.read hv a1 g.lv.1 (quiet_sym k1 k2 (.inr rfl) 0) (by omega) (bind_in ho)
    rw [h1] at ho ⊢
    simp only [PR.bind] at ho ⊢
    rw [if_pos (by rw [isSym_mk k1 k2]; rfl)] at ho ⊢
    rw [args_read hv hd x ks m G _ _ _ (fun y hy => hg y (List.mem_cons_of_mem _ hy)) a3 ho]
    congr 1
    · simp [allN]
    · simp; omega
    · show _ = i + (k.T ++ symK [44] :: argT (m :: ks)).length
      simp; omega
theorem endS_some {x : Bytes} {n i : Nat} {es : List Nd} {nd : Nd} (h : callS x n = some nd) : endS x es n i = .ok (es ++ [nd]) (i + 1) := by
  unfold endS; rw [h]
theorem primP_call {q : Nat → Nat → Nat → PR} {ts : List Tok} {i d : Nat} {x : Bytes} (k1 : (tk ts i).kind = 1) (k2 : (tk ts i).text = x) (hr : resB x = false) (hs : isSym (tk ts (i + 1)) [40] = true) : primP q ts i d = callP q ts x (i + 2) (d + 1) := by
  obtain ⟨r0, r1, r2, r3, r4⟩ := res_words hr
  unfold primP
  rw [if_neg (by omega), if_neg (by omega), if_neg (by omega), if_neg (by omega)]
  unfold namP
  rw [k2, if_neg r1, if_neg r2, if_neg r3, if_pos hs]
theorem call_head {x : Bytes} {us : List Tok} (hr : resB x = false) (ts : List Tok) (i : Nat) (ha : At ts i (wordK x :: symK [40] :: us)) : isWord (tk ts i) wNot = false ∧ isSym (tk ts i) [45] = false ∧ (false = false → (tk ts i).kind ≠ 2) ∧ (isSym (tk ts (i + (wordK x :: symK [40] :: us).length)) [40] = false → begB ts i = true) ∧ isSym (tk ts i) [41] = false := by
  obtain ⟨r0, r1, r2, r3, r4⟩ := res_words hr
  obtain ⟨k1, k2, a1⟩ := ha.word
  obtain ⟨k3, k4, a2⟩ := a1.sym
  refine ⟨by rw [isWord_mk k1 k2]; exact beq_eq_false_iff_ne.2 r4, isSym_no (by omega), fun _ => by omega, fun _ => ?_, isSym_no (by omega)⟩
  unfold begB
  rw [if_neg (by omega), if_pos k1, k2, if_neg (by simp [r1, r2, r3]), r0, isSym_mk k3 k4]; simp
theorem gd_call {x : Bytes} {ks : List Pk} {c : Nat} {nd : Nd} (hx : isQualB 24 x = true) (hr : resB x = false) (hday : x ≠ wDay) (hc : callS x ks.length = some nd) (hk : ∀ m ∈ ks, m.Good ∧ m.c ≤ c) :
    Gd (allN ks ++ [nd]) ⟨x ++ [40] ++ List.intercalate [44, 32] (ks.map fun m => m.pc.text) ++ [41], 8, false⟩ (wordK x :: symK [40] :: (argT ks ++ [symK [41]])) (c + 1) := by
  have hop : Emit ([40] ++ (List.intercalate [44, 32] (ks.map fun m => m.pc.text) ++ [41])) ([symK [40]] ++ (argT ks ++ [symK [41]])) := by
    cases ks with
    | nil => exact emit_open.app (emit_sym (by decide))
    | cons k ks => exact emit_open.app ((emit_args k ks (fun m hm => (hk m hm).1)).app (emit_sym (by decide)) (stop_41 _))
  refine Gd.prim ?_ (by simp) ?_ (fun ts i ha => call_head hr ts i ha)
  · rw [List.append_assoc, List.append_assoc]
    exact (emit_word hx).app hop (stop_40 _)
  · intro ts F i d hv ha hq hd ho
    obtain ⟨k1, k2, a1⟩ := ha.word
    obtain ⟨k3, k4, a2⟩ := a1.sym
    rw [primP_call k1 k2 hr (by rw [isSym_mk k3 k4]; rfl)] at ho ⊢
    unfold callP at ho ⊢
    rw [if_neg hday] at ho ⊢
    cases ks with
    | nil =>
      have a2 : At ts (i + 1 + 1) [symK [41]] := a2
      obtain ⟨k5, k6, a3⟩ := a2.sym
      rw [if_pos (by rw [isSym_mk k5 k6]; rfl), endS_some (show callS x 0 = some nd from hc)]
      rfl
    | cons k ks =>
      have hgk := (hk k (by simp)).1
      have hTk : ∃ us, argT (k :: ks) = k.T ++ us := by
        cases ks with
        | nil => exact ⟨[], by simp [argT]⟩
        | cons m ks => exact ⟨_, rfl⟩
      obtain ⟨us, hus⟩ := hTk
      have ha3 : At ts (i + 2) (k.T) := by
        have := a2
        rw [hus, List.append_assoc] at this
        exact this.app.1
      rw [if_neg (by rw [hgk.ncl ts _ ha3]; simp)] at ho ⊢
      rw [args_read hv (c := c) (by omega) x ks k ts.length [] 0 (i + 2) hk a2 ho, endS_some (by rw [Nat.zero_add]; exact hc)]
      simp only [List.nil_append]
      congr 1
      simp; omega
theorem gd_day {es : List Nd} {p : Pc} {T : List Tok} {c : Nat} {y : Bytes} (g : Gd es p T c) (hy : isQualB 24 y = true) (hr : resB y = false) :
    Gd (es ++ [⟨20, vl0, y, 0⟩]) ⟨wDay ++ [40] ++ List.intercalate [44, 32] [p.text, y] ++ [41], 8, false⟩ (wordK wDay :: symK [40] :: (T ++ [symK [44], wordK y, symK [41]])) (c + 1) := by
  have hd : resB wDay = false := by decide
  have e1 : List.intercalate [44, 32] [p.text, y] = p.text ++ [44, 32] ++ y := by simp [List.intercalate, List.intersperse]
  refine Gd.prim ?_ (by simp) ?_ (fun ts i ha => call_head hd ts i ha)
  · have h1 : Emit (y ++ [41]) ([wordK y] ++ [symK [41]]) := (emit_word hy).app (emit_sym (by decide)) (stop_41 _)
    have h2 : Emit ([44] ++ (32 :: (y ++ [41]))) ([symK [44]] ++ ([wordK y] ++ [symK [41]])) := (emit_sym (x := [44]) (by decide)).app h1.blank (stop_32 _)
    have h3 := g.emit.app h2 (stop_44 _)
    have h4 := (emit_word (x := wDay) (by decide)).app (emit_open.app h3) (stop_40 _)
    have e : wDay ++ [40] ++ List.intercalate [44, 32] [p.text, y] ++ [41] = wDay ++ ([40] ++ (p.text ++ ([44] ++ (32 :: (y ++ [41]))))) := by rw [e1]; simp
    rw [e]; exact h4
  · intro ts F i d hv ha hq hdd ho
    obtain ⟨k1, k2, a1⟩ := ha.word
    obtain ⟨k3, k4, a2⟩ := a1.sym
    obtain ⟨a3, a4⟩ := a2.app
    obtain ⟨k5, k6, a5⟩ := a4.sym
    obtain ⟨k7, k8, a6⟩ := a5.word
    obtain ⟨k9, k10, a7⟩ := a6.sym
    rw [primP_call k1 k2 hd (by rw [isSym_mk k3 k4]; rfl)] at ho ⊢
    unfold callP at ho ⊢
    rw [if_pos rfl, if_neg (by rw [g.ncl ts _ a3]; simp)] at ho ⊢
    have h1 := g.read hv a3 g.lv.1 (quiet_sym k5 k6 (.inr rfl) 0) (by omega) (show prs ts F 0 (i + 1 + 1) (d + 1) ≠ .out from bind_in ho)
    show (prs ts F 0 (i + 1 + 1) (d + 1)).bind (dayS ts) = _
    rw [h1]
    show dayS ts es (i + 1 + 1 + T.length) = _
    unfold dayS
    rw [if_pos (by rw [isSym_mk k5 k6]; rfl), if_pos ⟨k7, by rw [k8]; exact (res_words hr).1⟩, if_pos (by rw [show i + 1 + 1 + T.length + 2 = i + 1 + 1 + T.length + 1 + 1 from rfl, isSym_mk k9 k10]; rfl), k8]
    congr 1
    simp; omega
/-! ### every writer -/
theorem ar_21 (x : Bytes) (a : Int) : (⟨21, vl0, x, a⟩ : Nd).ar = a := rfl
theorem two_of : ∀ {l : List Pk}, l.length = 2 → ∃ k m, l = [k, m]
  | [k, m], _ => ⟨k, m, rfl⟩
  | [], h => by cases h
  | [_], h => by simp at h
  | _ :: _ :: _ :: _, h => by simp at h
/-- The writer at a node over its operands' pieces. -/
theorem write_gd {n : Nd} {ks : List Pk} {c : Nat} (hn : n.ok = true) (hl : (ks.length : Int) = n.ar) (hk : ∀ m ∈ ks, m.Good ∧ m.c ≤ c) : ∃ T, Gd (allN ks ++ [n]) (writeS n (ks.map Pk.pc)) T (c + 2) := by
  have ht : (ks.map Pk.pc).map Pc.text = ks.map fun m => m.pc.text := by simp
  rcases nd_cases hn with ⟨ho, e, hv⟩ | ⟨ho, e, h1, h2⟩ | ⟨ho, e, h1, h2⟩ | ⟨ho, e, h1, h2, h3, h4, h5⟩ | ⟨ho1, ho2, e⟩
  · obtain rfl : ks = [] := List.eq_nil_of_length_eq_zero (by have : n.ar = 0 := (by rw [e]; rfl); omega)
    have hw : writeS n [] = litP n.val := by rw [e]; rfl
    rw [List.map_nil, hw]
    exact ⟨_, by have := (gd_lit hv).mono (c' := c + 2) (by omega); rw [← e] at this; exact this⟩
  · obtain rfl : ks = [] := List.eq_nil_of_length_eq_zero (by have : n.ar = 0 := (by rw [e]; rfl); omega)
    have hw : writeS n [] = ⟨n.name, 8, false⟩ := by rw [e]; rfl
    rw [List.map_nil, hw]
    exact ⟨_, by have := (gd_col h1 h2).mono (c' := c + 2) (by omega); rw [← e] at this; exact this⟩
  · obtain ⟨k, rfl⟩ : ∃ k, ks = [k] := List.length_eq_one_iff.1 (by have : n.ar = 1 := (by rw [e]; rfl); omega)
    obtain ⟨g, gc⟩ := hk k (by simp)
    have hw : writeS n [k.pc] = ⟨wDay ++ [40] ++ List.intercalate [44, 32] [k.pc.text, n.name] ++ [41], 8, false⟩ := by rw [e]; rfl
    rw [List.map_cons, List.map_nil, hw]
    have := (gd_day (g.mono gc) h1 h2).mono (c' := c + 2) (by omega)
    rw [← e] at this
    exact ⟨_, by simpa [allN] using this⟩
  · have ha : n.ar = n.arity := by rw [e]; rfl
    obtain ⟨b1, b2⟩ := bi_names h3
    have hcs : callS n.name ks.length = some n := by
      unfold callS
      rw [b1]
      simp only
      rw [if_pos (by omega)]
      congr 1
      rw [hl, ha]; exact e.symm
    have hw : writeS n (ks.map Pk.pc) = ⟨n.name ++ [40] ++ List.intercalate [44, 32] (ks.map fun m => m.pc.text) ++ [41], 8, false⟩ := by
      unfold writeS argS
      rw [binS_none (by omega)]
      simp only
      rw [if_neg (by omega), if_neg (by omega), if_neg (by omega), if_neg (by omega), if_neg (by omega), List.append_nil, ht]
      unfold fnS
      rw [if_neg (by omega), if_neg (by omega), if_neg (by omega), if_neg (by omega), if_neg (by omega)]
    rw [hw]
    exact ⟨_, (gd_call h1 h2 b2 hcs hk).mono (by omega)⟩
  · obtain ⟨o, v, nm, a⟩ := n
    simp only at ho1 ho2 e
    have hb : (4 ≤ o ∧ o ≤ 15) ∨ o = 2 ∨ o = 3 ∨ o = 16 ∨ o = 17 ∨ o = 18 ∨ o = 19 := by omega
    rw [e] at hl ⊢
    clear e hn
    rcases hb with hb | hb
    · have har : (opNd o).ar = 2 := by
        show arityN o 0 = 2
        unfold arityN
        rw [if_neg (by omega), if_neg (by omega), if_neg (by omega), if_neg (by omega), if_pos (by omega)]
      obtain ⟨k, m, rfl⟩ : ∃ k m, ks = [k, m] := two_of (by omega)
      obtain ⟨g, gc⟩ := hk k (by simp)
      obtain ⟨g2, gc2⟩ := hk m (by simp)
      have g := g.mono gc
      have g2 := g2.mono gc2
      have hall : allN [k, m] = k.es ++ m.es := by simp [allN]
      rw [List.map_cons, List.map_cons, List.map_nil, hall]
      have ch : ∀ (l : Nat) (t : Bytes) (u : Tok), binS o = some (t, (l : Int), (l : Int), ((l + 1 : Nat) : Int)) → (l = 0 ∨ l = 1 ∨ l = 4 ∨ l = 5 ∨ l = 6) → Emit t [u] → (∀ v, sameT v u = true → opOf l v = some o ∧ Quiet (l + 1) v) → ∃ T, Gd (k.es ++ m.es ++ [opNd o]) (writeS (opNd o) [k.pc, m.pc]) T (c + 2) := by
        intro l t u hbn hc he hu
        have hw : writeS (opNd o) [k.pc, m.pc] = ⟨k.pc.at' l ++ [32] ++ t ++ [32] ++ m.pc.at' ((l + 1 : Nat) : Int), l, false⟩ := by
          unfold writeS
          rw [show (opNd o).op = o from rfl, hbn]; rfl
        rw [hw, Pc.atP_text, Pc.atP_text]
        obtain ⟨a1, a2, _⟩ := g.at_ l (by omega)
        obtain ⟨b1, b2, _⟩ := g2.at_ ((l + 1 : Nat) : Int) (by omega)
        exact ⟨_, (gd_chn l hc a1 b1 a2 b2 he hu).mono (by omega)⟩
      have cm : ∀ (t : Bytes), binS o = some (t, 3, 4, 4) → Emit t [symK t] → (∀ v, sameT v (symK t) = true → cmpOf v = some (o, false) ∧ Quiet 4 v) → ∃ T, Gd (k.es ++ m.es ++ [opNd o]) (writeS (opNd o) [k.pc, m.pc]) T (c + 2) := by
        intro t hbn he hu
        have hw : writeS (opNd o) [k.pc, m.pc] = ⟨k.pc.at' 4 ++ [32] ++ t ++ [32] ++ m.pc.at' 4, 3, false⟩ := by
          unfold writeS
          rw [show (opNd o).op = o from rfl, hbn]; rfl
        rw [hw, Pc.atP_text, Pc.atP_text]
        obtain ⟨a1, a2, _⟩ := g.at_ 4 (by omega)
        obtain ⟨b1, b2, _⟩ := g2.at_ 4 (by omega)
        exact ⟨_, (gd_cmp a1 b1 a2 b2 he hu).mono (by omega)⟩
      clear hl hk hall ht har
      rcases (by omega : o = 4 ∨ o = 5 ∨ o = 6 ∨ o = 7 ∨ o = 8 ∨ o = 9 ∨ o = 10 ∨ o = 11 ∨ o = 12 ∨ o = 13 ∨ o = 14 ∨ o = 15) with rfl | rfl | rfl | rfl | rfl | rfl | rfl | rfl | rfl | rfl | rfl | rfl
      · exact ch 5 [43] (symK [43]) rfl (by omega) (emit_sym (by decide)) (op_sym rfl (by decide) (opOf_all (by decide)) (by omega))
      · exact ch 5 [45] (symK [45]) rfl (by omega) (emit_sym (by decide)) (op_sym rfl (by decide) (opOf_all (by decide)) (by omega))
      · exact ch 6 [42] (symK [42]) rfl (by omega) (emit_sym (by decide)) (op_sym rfl (by decide) (opOf_all (by decide)) (by omega))
      · exact ch 6 [47] (symK [47]) rfl (by omega) (emit_sym (by decide)) (op_sym rfl (by decide) (opOf_all (by decide)) (by omega))
      · exact ch 6 [37] (symK [37]) rfl (by omega) (emit_sym (by decide)) (op_sym rfl (by decide) (opOf_all (by decide)) (by omega))
      · exact ch 4 [43, 43] (symK [43, 43]) rfl (by omega) (emit_sym (by decide)) (op_sym rfl (by decide) (opOf_all (by decide)) (by omega))
      · exact cm [61] rfl (emit_sym (by decide)) (op_cmp rfl (by decide) (opOf_all (by decide)))
      · exact cm [33, 61] rfl (emit_sym (by decide)) (op_cmp rfl (by decide) (opOf_all (by decide)))
      · exact cm [60] rfl (emit_sym (by decide)) (op_cmp rfl (by decide) (opOf_all (by decide)))
      · exact cm [60, 61] rfl (emit_sym (by decide)) (op_cmp rfl (by decide) (opOf_all (by decide)))
      · exact ch 1 [97, 110, 100] (wordK [97, 110, 100]) rfl (by omega) (emit_word (by decide)) (op_word rfl (opOf_all (by decide)))
      · exact ch 0 [111, 114] (wordK [111, 114]) rfl (by omega) (emit_word (by decide)) (op_word rfl (opOf_all (by decide)))
    · have cl : ∀ (x : Bytes), writeS (opNd o) (ks.map Pk.pc) = ⟨x ++ [40] ++ List.intercalate [44, 32] ((ks.map Pk.pc).map Pc.text ++ []) ++ [41], 8, false⟩ → isQualB 24 x = true → resB x = false → x ≠ wDay → callS x ks.length = some (opNd o) → ∃ T, Gd (allN ks ++ [opNd o]) (writeS (opNd o) (ks.map Pk.pc)) T (c + 2) := by
        intro x hw h1 h2 h3 h4
        rw [hw, List.append_nil, ht]
        exact ⟨_, (gd_call h1 h2 h3 h4 hk).mono (by omega)⟩
      rcases hb with rfl | rfl | rfl | rfl | rfl | rfl
      · obtain ⟨k, rfl⟩ : ∃ k, ks = [k] := List.length_eq_one_iff.1 (by have : (opNd 2).ar = 1 := rfl; omega)
        obtain ⟨g, gc⟩ := hk k (by simp)
        obtain ⟨a1, a2, _⟩ := g.at_ 2 (by omega)
        have hw : writeS (opNd 2) [k.pc] = ⟨[110, 111, 116, 32] ++ k.pc.at' 2, 2, false⟩ := rfl
        rw [List.map_cons, List.map_nil, hw, Pc.atP_text]
        exact ⟨_, by have := (gd_not a1 a2).mono (c' := c + 2) (by omega); simpa [allN] using this⟩
      · obtain ⟨k, rfl⟩ : ∃ k, ks = [k] := List.length_eq_one_iff.1 (by have : (opNd 3).ar = 1 := rfl; omega)
        obtain ⟨g, gc⟩ := hk k (by simp)
        rw [List.map_cons, List.map_nil]
        by_cases hnum : k.pc.num = true
        · have hw : writeS (opNd 3) [k.pc] = ⟨[45] ++ k.pc.par.text, 7, false⟩ := by
            show (if k.pc.num = true then (⟨[45, 40] ++ k.pc.text ++ [41], 7, false⟩ : Pc) else _) = _
            rw [if_pos hnum]; rfl
          rw [hw]
          exact ⟨_, by have := (gd_neg g.par (by show (7 : Int) ≤ 8; decide) rfl).mono (c' := c + 2) (by omega); simpa [allN] using this⟩
        · obtain ⟨a1, a2, a3⟩ := g.at_ 7 (by omega)
          have hw : writeS (opNd 3) [k.pc] = ⟨[45] ++ k.pc.at' 7, 7, false⟩ := by
            show (if k.pc.num = true then _ else (⟨[45] ++ k.pc.at' 7, 7, false⟩ : Pc)) = _
            rw [if_neg hnum]
          rw [hw, Pc.atP_text]
          exact ⟨_, by have := (gd_neg a1 a2 (by cases h : (k.pc.atP 7).num <;> simp_all)).mono (c' := c + 2) (by omega); simpa [allN] using this⟩
      · exact cl _ rfl (by decide) (by decide) (by decide) (by have : (opNd 16).ar = 1 := rfl; rw [show ks.length = 1 by omega]; rfl)
      · exact cl _ rfl (by decide) (by decide) (by decide) (by have : (opNd 17).ar = 3 := rfl; rw [show ks.length = 3 by omega]; rfl)
      · exact cl _ rfl (by decide) (by decide) (by decide) (by have : (opNd 18).ar = 2 := rfl; rw [show ks.length = 2 by omega]; rfl)
      · exact cl _ rfl (by decide) (by decide) (by decide) (by have : (opNd 19).ar = 1 := rfl; rw [show ks.length = 1 by omega]; rfl)
/-! ### the stack -/
/-- The stack of pieces stands for the nodes read so far; the cost of each is bounded by its height. -/
def Stk (ks : List Pk) (st : List Int) : Prop := ks.length = st.length ∧ (∀ k ∈ ks, k.Good) ∧ ∀ i (h : i < ks.length) (h2 : i < st.length), (ks[i].c : Int) ≤ 2 * st[i]
theorem allN_app (a b : List Pk) : allN (a ++ b) = allN a ++ allN b := by simp [allN]
theorem stk_step {n : Nd} {ks : List Pk} {st st' : List Int} (h : Stk ks st) (hs : stepE n st = .ok st') : ∃ ks', Stk ks' st' ∧ allN ks' = allN ks ++ [n] ∧ ks'.map Pk.pc = stepF n (ks.map Pk.pc) := by
  obtain ⟨h1, h2, h3⟩ := h
  obtain ⟨hok, hle, ht, rfl⟩ := stepE_ok hs
  obtain ⟨ha0, ha8⟩ := shaped_ar hok
  obtain ⟨a, ha⟩ : ∃ a : Nat, n.ar = a := ⟨n.ar.toNat, by omega⟩
  have han : n.ar.toNat = a := by omega
  rw [han] at ht ⊢
  have hr : st.length - a = ks.length - a := by omega
  obtain ⟨m, hm⟩ : ∃ m : Nat, topH st a = (m : Int) + 1 := ⟨(topH st a - 1).toNat, by have := topH_pos st a; omega⟩
  have hmax : ∀ k ∈ ks.drop (ks.length - a), k.Good ∧ k.c ≤ 2 * m := by
    intro k hk
    refine ⟨h2 k (List.mem_of_mem_drop hk), ?_⟩
    obtain ⟨i, hi, rfl⟩ := List.mem_iff_getElem.1 hk
    rw [List.length_drop] at hi
    rw [List.getElem_drop]
    have hx := h3 (ks.length - a + i) (by omega) (by omega)
    have hmem : st[ks.length - a + i]'(by omega) ∈ st.drop (st.length - a) := by
      rw [hr, List.mem_iff_getElem]
      exact ⟨i, by rw [List.length_drop]; omega, by rw [List.getElem_drop]⟩
    have hf := (foldl_max_ge (st.drop (st.length - a)) 0).2 _ hmem
    unfold topH at hm
    omega
  obtain ⟨T, hT⟩ := write_gd (c := 2 * m) hok (by rw [List.length_drop]; omega) hmax
  refine ⟨ks.take (ks.length - a) ++ [⟨allN (ks.drop (ks.length - a)) ++ [n], writeS n ((ks.drop (ks.length - a)).map Pk.pc), T, 2 * m + 2⟩], ⟨by simp; omega, fun k hk => ?_, fun i hi hi2 => ?_⟩, ?_, ?_⟩
  · rcases List.mem_append.1 hk with hk | hk
    · exact h2 k (List.mem_of_mem_take hk)
    · rw [List.mem_singleton] at hk; subst hk; exact hT
  · rw [List.length_append, List.length_take, List.length_singleton] at hi
    rcases Nat.lt_or_ge i (ks.length - a) with hlt | hge
    · rw [List.getElem_append_left (by rw [List.length_take]; omega), List.getElem_append_left (by rw [List.length_take]; omega), List.getElem_take, List.getElem_take]
      exact h3 i (by omega) (by omega)
    · rw [List.getElem_append_right (by rw [List.length_take]; omega), List.getElem_append_right (by rw [List.length_take]; omega)]
      simp only [List.getElem_singleton]
      omega
  · rw [allN_app]
    show allN (ks.take (ks.length - a)) ++ (allN (ks.drop (ks.length - a)) ++ [n] ++ []) = _
    rw [List.append_nil, ← List.append_assoc, ← allN_app, List.take_append_drop]
  · unfold stepF
    rw [han, List.length_map, List.map_append, List.map_take, List.map_drop]; rfl
theorem stk_run : ∀ (es : List Nd) (ks : List Pk) (st st' : List Int), Stk ks st → runE es st = .ok st' → ∃ ks', Stk ks' st' ∧ allN ks' = allN ks ++ es ∧ ks'.map Pk.pc = runF es (ks.map Pk.pc)
  | [], ks, st, st', h, hr => by
    injection hr with hr
    subst hr
    exact ⟨ks, h, by simp, rfl⟩
  | n :: es, ks, st, st', h, hr => by
    rw [runE_cons] at hr
    cases hs : stepE n st with
    | error x => rw [hs] at hr; cases hr
    | ok s1 =>
      rw [hs] at hr
      obtain ⟨k1, a1, a2, a3⟩ := stk_step h hs
      obtain ⟨k2, b1, b2, b3⟩ := stk_run es k1 s1 st' a1 hr
      exact ⟨k2, b1, by rw [b2, a2]; simp, by rw [b3, a3]; rfl⟩
theorem valid_ok {es : List Nd} (h : validE es = 0) : es.length ≤ 256 ∧ ∃ x, runE es [] = .ok [x] ∧ x ≤ 64 := by
  unfold validE at h
  split at h
  · omega
  rename_i hl
  refine ⟨by omega, ?_⟩
  cases hr : runE es [] with
  | error x =>
    rw [hr] at h
    simp only at h
    rcases runE_err es _ _ hr with e | e <;> omega
  | ok st =>
    rw [hr] at h
    simp only at h
    split at h
    · rename_i h1
      obtain ⟨x, rfl⟩ := List.length_eq_one_iff.1 h1
      exact ⟨x, rfl, ((runE_stk es [] _ hr (by intro x hx; cases hx)).1 x (by simp)).2⟩
    · omega
/-- The piece that a valid list of nodes is written as. -/
theorem valid_piece {es : List Nd} (h : validE es = 0) : ∃ T c, Gd es ((runF es []).getD 0 pc0) T c ∧ c ≤ 128 ∧ (runF es []).length = 1 := by
  obtain ⟨h1, x, h2, h3⟩ := valid_ok h
  obtain ⟨ks, ⟨a1, a2, a4⟩, b, c⟩ := stk_run es [] [] [x] ⟨rfl, by simp, by simp⟩ h2
  obtain ⟨k, rfl⟩ := List.length_eq_one_iff.1 a1
  have hc := a4 0 (by simp) (by simp)
  simp only [List.getElem_cons_zero] at hc
  have hg := a2 k (by simp)
  have he : k.es = es := by simpa [allN] using b
  have hp : runF es [] = [k.pc] := c.symm
  refine ⟨k.T, k.c, ?_, by omega, by rw [hp]; rfl⟩
  rw [hp, ← he]; exact hg
theorem runF_len : ∀ (es : List Nd) (ps : List Pc), (∀ n ∈ es, n.ok = true) → sumL (runF es ps) ≤ sumL ps + 150 * es.length
  | [], ps, _ => by simp [runF]
  | n :: es, ps, h => by
    have hn := h n (by simp)
    obtain ⟨ha0, ha8⟩ := shaped_ar hn
    have h1 := runF_len es (stepF n ps) (fun m hm => h m (List.mem_cons_of_mem _ hm))
    have h2 : sumL (stepF n ps) ≤ sumL ps + 150 := by
      unfold stepF
      rw [sumL_app]
      have h3 := writeS_len (n := n) (l := ps.drop (ps.length - n.ar.toNat)) hn (by rw [List.length_drop]; omega)
      have h4 := sumL_split ps (ps.length - n.ar.toNat)
      simp only [sumL]
      omega
    show sumL (runF es (stepF n ps)) ≤ _
    rw [List.length_cons]
    omega
theorem fmt_len {es : List Nd} (h : validE es = 0) : ((runF es []).getD 0 pc0).text.length ≤ 38400 := by
  obtain ⟨h1, x, h2, h3⟩ := valid_ok h
  have a := runF_len es [] (runE_oks es _ _ h2)
  have b := getD_sumL (runF es []) 0
  simp only [sumL] at a
  omega
/-- Parsing the text of a valid list of nodes. -/
theorem parS_fmt {es : List Nd} (h : validE es = 0) : parS ((runF es []).getD 0 pc0).text = (es, 0, 0) := by
  obtain ⟨T, c, g, hc, _⟩ := valid_piece h
  obtain ⟨zs, o, hsp, hsame⟩ := g.emit.split (by have := fmt_len h; omega)
  have hv := splitS_fine hsp
  have ha := At.of_same (t := ⟨0, [], 0, o⟩) hsame
  have hlen := sameL_len hsame
  have htl : tk (zs ++ [⟨0, [], 0, o⟩]) (0 + T.length) = ⟨0, [], 0, o⟩ := by
    rw [Nat.zero_add, tk_eq (by simp; omega), List.getElem_append_right (by omega)]
    simp
  have hk : (tk (zs ++ [⟨0, [], 0, o⟩]) (0 + T.length)).kind = 0 := by rw [htl]
  have hne := prs_ne hv (((zs ++ [(⟨0, [], 0, o⟩ : Tok)]).length - 0) * 10 + 9) 0 0 0 (by simp) (by omega) (by omega) (by omega)
  have hp := g.read (l := 0) hv ha g.lv.1 (quiet_end hk 0) (by omega) hne
  have hpa : paS (zs ++ [⟨0, [], 0, o⟩]) 0 = (es, ((0 + T.length : Nat) : Int), 0) := by
    unfold paS
    rw [if_neg (by rw [hv]; decide), if_neg (by simp), show (0 : Int).toNat = 0 from rfl, hp]
    simp only
    rw [if_pos h]
  unfold parS
  rw [hsp]
  simp only
  rw [hpa]
  simp only [Int.toNat_natCast]
  rw [if_pos trivial, if_pos hk]
end Go.Proofs.YtlfedcbihbigoaaGreatDoor
