/- Contract of the splitter, the program's. -/
import Derived.Test.YtlfedcbihbigoaaGreatDoorSplitS
import Derived.Test.YtlfedcbihbigoaaGreatDoorShelf
import Derived.Test.YtlfedcbihbigoaaGreatDoorCivTE
set_option linter.unusedVariables false
set_option linter.unusedSimpArgs false
namespace Go.Proofs.YtlfedcbihbigoaaGreatDoor
open Go.RowKit

abbrev tokCells (ts : List Tok) : List Value := ts.flatMap Tok.cells
theorem tokCells_len : ∀ ts : List Tok, (tokCells ts).length = ts.length * 4
  | [] => rfl
  | t :: ts => by
    have := tokCells_len ts
    rw [show tokCells (t :: ts) = t.cells ++ tokCells ts from rfl, List.length_append, this, List.length_cons]
    simp [Tok.cells]; omega
def SplitRes (w w' : World) (r : Except (Nat × Int) (List Tok)) (e : Ending) : Prop :=
  match r with
  | .ok ts => ∃ (A : Option Addr) (c : Nat), e = .returned (.tuple #[.slice A ts.length c, .int .i64 0, .int .i64 0]) ∧ w'.ownsRow w.heap.size 70 4 (.slice A ts.length c) ts.length (tokCells ts)
  | .error x => e = .returned (.tuple #[.slice none 0 0, .int .i64 (x.1 : Nat), .int .i64 x.2])
theorem cells_new4 (w : World) (a b c d : Value) (t : TypeId) : ∀ (j : Nat) (u : Value), [a, b, c, d][j]? = some u → (w.alloc (.cells #[a, b, c, d] t)).cell? ((⟨w.heap.size, 0, none⟩ : Addr).add j) = some u := by
  intro j u h
  have e : (⟨w.heap.size, 0, none⟩ : Addr).add j = ⟨w.heap.size, j, none⟩ := by unfold Addr.add; split <;> simp_all
  rw [e, cell_of_heap (heap_alloc_new w _)]
  simpa using h

theorem own_below {w w' : World} {base e size n : Nat} {v : Value} {xs : List Value} (h : w.ownsRow base e size v n xs) (hb : Below w.heap.size w w') : w'.ownsRow base e size v n xs :=
  h.kept (row := none) ⟨hb.os, hb.tape, hb.output, hb.size, fun i hi _ => hb.block i hi⟩ (by
    rcases h.2 with ⟨rfl, _⟩ | ⟨g, cap, cur, rfl, _⟩
    · left; rfl
    · right; simp [Value.ownBlock])
theorem below_then {B : Nat} {w w1 w2 : World} (h : Below B w w1) (hB : B ≤ w1.heap.size) (h2 : Below w1.heap.size w1 w2) : Below B w w2 := h.trans (h2.mono hB)
theorem indexByte_any (s : ByteArray) (w : World) : Calls Tryz.prog 75 #[.string s, .int .u8 10] w fun e w' => e = .returned (.int .i64 (Lib.indexByte (bs s) 10)) ∧ w = w' :=
  (Tryz.strings_IndexByte s 10 w).mono fun _ _ ⟨h1, h2⟩ => ⟨h1, h2.symm⟩
theorem blank_yes {c : UInt8} (h : blankB c = true) : ((c.toNat : Int) == 32) = true ∨ (((c.toNat : Int) == 32) = false ∧ ((c.toNat : Int) == 9) = true) ∨ (((c.toNat : Int) == 32) = false ∧ ((c.toNat : Int) == 9) = false ∧ ((c.toNat : Int) == 10) = true) := by
  unfold blankB at h; simp at h; simp; omega
theorem blank_no {c : UInt8} (h : blankB c = false) : ((c.toNat : Int) == 32) = false ∧ ((c.toNat : Int) == 9) = false ∧ ((c.toNat : Int) == 10) = false := by
  unfold blankB at h; simp at h; simp; omega
theorem SplitRel_le {s : ByteArray} {i : Nat} {acc : List Tok} (h : SplitRel (bs s) i acc) : i ≤ s.size ∧ acc.length ≤ i := h.2

set_option maxRecDepth 100000 in
set_option maxHeartbeats 4000000 in
theorem token_Split_any (s : ByteArray) (w : World) (hG : Glob w) (hs : s.size ≤ maxLen) :
    Calls Tryz.prog 40 #[.string s] w fun e w' => SplitRes w w' (splitS (bs s)) e ∧ Below w.heap.size w w' := by
  have HG := hide hG; clear hG
  unfold maxLen at hs
  by_cases hbig : 65536 < s.size
  · have H := hide (show splitS (bs s) = .error (0, 2) by unfold splitS; rw [bs_length, if_pos hbig])
    go_enter Tryz.func40, Tryz.ntmps40
    go_wp2
    go_step3
    go_wp2
    try rw [Exit.noGoto_ret]
    go_ret3
    refine ⟨?_, Below.refl _ _⟩
    rw [H.out]; exact rfl
  · have H := hide (show splitS (bs s) = splitGo (bs s).length (bs s) 0 by unfold splitS; rw [bs_length, if_neg hbig])
    obtain ⟨i0, hi, hz0, hz1, hz2⟩ := info_parts Tryz.info_tok
    go_enter Tryz.func40, Tryz.ntmps40
    go_wp2
    go_step3
    go_wp2
    go_step3
    go_wp2
    go_loopw [2, 5] (fun v i wr => ∃ (k : Nat) (acc : List Tok) (A : Option Addr) (c : Nat), v = .slice A acc.length c ∧ i = .int .i64 k ∧ Hid (SplitRel (bs s) k acc) ∧
        wr.ownsRow w.heap.size 70 4 (.slice A acc.length c) acc.length (tokCells acc) ∧ Below w.heap.size w wr) (fun _ i _ => s.size - (intOf i).toNat)
    case atStart => exact ⟨0, [], none, 0, rfl, rfl, SplitRel_start _, own_nil _ _ _ _, Below.refl _ _⟩
    case round =>
      obtain ⟨k, acc, A, c, rfl, rfl, HR, hown, hbel⟩ := hrel
      obtain ⟨hk, hacc⟩ := SplitRel_le HR.out
      have hsz := hbel.size
      by_cases hlt : k < s.size
      · cases hb : blankB s[k]
        · obtain ⟨b1, b2, b3⟩ := blank_no hb
          by_cases h35 : s[k].toNat = 35
          · have b4 : ((s[k].toNat : Int) == 35) = true := by simp; omega
            obtain ⟨hr2, hp1, hp2⟩ := SplitRel_line HR.out hlt hb h35
            obtain ⟨hx1, hx2⟩ := lineL_idx ((bs s).drop k)
            rw [← bs_from] at hx1 hx2 hp1 hp2 hr2
            have hlen : (bs (s.extract k s.size)).length = s.size - k := by rw [bs_from, List.length_drop, bs_length]
            rw [hlen] at hx1
            clear hlen
            have HIX := hide (fun W => indexByte_any (s.extract k s.size) W)
            generalize Lib.indexByte (bs (s.extract k s.size)) 10 = n at *
            generalize lineL (bs (s.extract k s.size)) = m at *
            clear hb h35
            by_cases hn : n < 0
            · have hm := hx1 hn
              have e : k + m = s.size := by omega
              have HE := hide (show splitS (bs s) = _ by rw [H.out, SplitRel_end (show SplitRel (bs s) s.size acc from e ▸ hr2)])
              clear hx1 hx2 hr2 hm e
              go_wp2_with (first | (go_at_call 75; refine (HIX.out _).mono ?_; rintro e w' ⟨rfl, rfl⟩) | (at_builtin; refine wpList_append_own _ rfl _ _ 34 rfl w.heap.size 70 i0 _ 4 40 Tryz.underlying34 hi hz0 hz1 hz2 rfl (by decide) _ _ _ rfl (hown.alloc _) ⟨wr.heap.size, 0, none⟩ 1 1 [.int .i64 0, .string ⟨#[]⟩, .int .i64 0, .int .i64 s.size] rfl rfl (cells_new4 _ _ _ _ _ _) (by simp [Value.oneCell']) (by unfold maxLen; omega) (by omega) (by simp; omega) ?_; intro v' w2 hown' hgrow _))
              have hb2 := push_below hbel hown hgrow (by omega)
              obtain ⟨A', c', hv⟩ := own_form hown'
              try rw [Exit.noGoto_ret]
              go_ret3
              refine ⟨?_, hb2⟩
              rw [HE.out]
              subst hv
              exact ⟨A', c', by simp, by simpa [Tok.cells] using hown'⟩
            · have hm := hx2 hn
              subst hm
              have HR2 := hide hr2
              clear hx1 hx2 hr2
              go_wp2_with (go_at_call 75; refine (HIX.out _).mono ?_; rintro e w' ⟨rfl, rfl⟩)
              exact ⟨⟨k + m, acc, A, c, rfl, by go_num, HR2, hown, hbel⟩, by simp [intOf]; omega⟩
          · have b4 : ((s[k].toNat : Int) == 35) = false := by simp; omega
            cases ho : oneS ((bs s).drop k) with
            | error er =>
              have HE := hide (show splitS (bs s) = _ by rw [H.out, SplitRel_err HR.out hlt hb h35 ho])
              have HO := hide ho
              clear ho hb h35
              go_wp2_with fail
              refine (token_one_any (s.extract k s.size) _ (HG.out.below (hbel.mono (Nat.le_refl _))) (by simp; omega) (by simp; omega)).mono ?_
              rintro e w1 ⟨hres, hb1⟩
              rw [bs_from, HO.out] at hres
              obtain ⟨hc0, t, m, rfl⟩ := hres
              have hc1 : ((er : Int) != 0) = true := by simpa using hc0
              clear hc0
              have hsz1 := hb1.size
              have hb2 := below_then hbel hsz hb1
              go_wp2
              try rw [Exit.noGoto_ret]
              go_ret3
              refine ⟨?_, by (repeat (first | exact Below.refl _ _ | assumption | refine Below.drew ?_ | refine below_drewN ?_ _ | refine Below.alloc ?_ (by first | omega | simp <;> omega) _ | refine Below.setCell ?_ (by first | omega | simp <;> omega) _))⟩
              rw [HE.out]
              rfl
            | ok x =>
              obtain ⟨t, m⟩ := x
              obtain ⟨hr2, hp1, hp2⟩ := SplitRel_tok HR.out hlt hb h35 ho
              have HR2 := hide hr2
              have HO := hide ho
              clear ho hb h35 hr2
              go_wp2_with fail
              refine (token_one_any (s.extract k s.size) _ (HG.out.below (hbel.mono (Nat.le_refl _))) (by simp; omega) (by simp; omega)).mono ?_
              rintro e w1 ⟨hres, hb1⟩
              rw [bs_from, HO.out] at hres
              obtain rfl : e = .returned (.tuple #[t.agg, .int .i64 (m : Nat), .int .i64 0]) := hres
              have hsz1 := hb1.size
              have hb2 := below_then hbel hsz hb1
              have hown1 := own_below hown hb1
              go_wp2_with (at_builtin; refine wpList_append_own _ rfl _ _ 34 rfl w.heap.size 70 i0 _ 4 40 Tryz.underlying34 hi hz0 hz1 hz2 rfl (by decide) _ _ _ rfl ((hown1.alloc _).alloc _) ⟨w1.heap.size + 1, 0, none⟩ 1 1 [.int .i64 t.kind, str t.text, .int .i64 t.num, .int .i64 k] rfl rfl (by have h := cells_new4 (w1.alloc (.cells #[.int .i64 t.kind, str t.text, .int .i64 t.num, .int .i64 k] 70)) (.int .i64 t.kind) (str t.text) (.int .i64 t.num) (.int .i64 k) 70; simpa using h) (by simp [Value.oneCell']) (by unfold maxLen; omega) (by omega) (by simp; omega) ?_; intro v' w2 hown' hgrow _)
              have hb3 := ((hb2.alloc (by omega) _).alloc (by simp; omega) _).grown hgrow (by simp; omega) (fun k hk => (hown1.lt k hk).1)
              obtain ⟨A', c', rfl⟩ := own_form hown'
              exact ⟨⟨k + m, acc ++ [{ t with off := k }], A', c', by simp, by go_num, HR2, by simpa [Tok.cells] using hown', hb3⟩, by simp [intOf]; omega⟩
        · have HR2 := hide (SplitRel_blank HR.out hlt hb)
          rcases blank_yes hb with b1 | ⟨b1, b2⟩ | ⟨b1, b2, b3⟩
          all_goals
            clear hb
            go_wp2
            exact ⟨⟨k + 1, acc, A, c, rfl, by go_num, HR2, hown, hbel⟩, by simp [intOf]; omega⟩
      · obtain rfl : k = s.size := by omega
        have HE := hide (show splitS (bs s) = _ by rw [H.out, SplitRel_end HR.out])
        go_wp2_with (at_builtin; refine wpList_append_own _ rfl _ _ 34 rfl w.heap.size 70 i0 _ 4 40 Tryz.underlying34 hi hz0 hz1 hz2 rfl (by decide) _ _ _ rfl (hown.alloc _) ⟨wr.heap.size, 0, none⟩ 1 1 [.int .i64 0, .string ⟨#[]⟩, .int .i64 0, .int .i64 s.size] rfl rfl (cells_new4 _ _ _ _ _ _) (by simp [Value.oneCell']) (by unfold maxLen; omega) (by omega) (by simp; omega) ?_; intro v' w2 hown' hgrow _)
        have hb2 := push_below hbel hown hgrow (by omega)
        obtain ⟨A', c', hv⟩ := own_form hown'
        try rw [Exit.noGoto_ret]
        go_ret3
        refine ⟨?_, hb2⟩
        rw [HE.out]
        subst hv
        exact ⟨A', c', by simp, by simpa [Tok.cells] using hown'⟩

end Go.Proofs.YtlfedcbihbigoaaGreatDoor
