/- Contracts: the closures of query.ValidateStep that check items. Contracts: query.ValidateStep, query.Validate. -/
import Derived.Test.YtmbeeefkpgfgmaaGreatDoorPq35
import Derived.Test.YtmbeeefkpgfgmaaGreatDoorPq36
import Derived.Test.YtmbeeefkpgfgmaaGreatDoorPq37
import Derived.Test.YtmbeeefkpgfgmaaGreatDoorPq38
import Derived.Test.YtmbeeefkpgfgmaaGreatDoorPq39
import Derived.Laws.EntriesVeiled
set_option linter.unusedVariables false
set_option linter.unusedSimpArgs false
namespace Go.Proofs.YtmbeeefkpgfgmaaGreatDoor
open Go.RowKit
theorem vs_4_thunk (b : Nat) (s : Stp) (a : Adr) (w : World) (hW : StrVar w 2 wordsS) (hB : BoxAt w b s a) (hA : s.At w a) (ho : s.ok) (hop : s.op = 4 ∨ s.op = 5) : Thunk w 48 #[atB0 b] (itemsS s.items 0 false true false false (fun x => nameE x.col)) := by
  refine ⟨fun args W => by kernel_rfl, fun W hW2 => ?_⟩
  obtain ⟨hb, c0, c1, c2, c3, c4, c5⟩ := hB.below hW2
  have HM := hide (query_items_j s.op hop s.src a.nA s.names.length a.nC a.oA s.others.length a.oC a.iA a.iC a.cA s.cond.length a.cC s.items 0 49 #[] (fun x => nameE x.col) W (hW.below hW2) (hA.items.below hW2) ho.items hA.ci (by omega) (fun args W => by kernel_rfl) (fun k h E ec V hV hn => vs4_1_any _ E ec V ((hW.below hW2).below hV)))
  clear hW hB hA ho hW2
  skip
  generalize itemsS s.items 0 false true false false (fun x => nameE x.col) = v at *
  generalize s.names.length = l1 at *
  generalize s.others.length = l2 at *
  generalize s.items.length = l3 at *
  generalize s.cond.length = l4 at *
  go_enter Tryz.func48, Tryz.ntmps48
  go_wp2_with (go_at_call 46; refine (HM.out).mono ?_; rintro e w1 ⟨rfl, hb1⟩)
  go_ret
  exact ⟨rfl, hb1⟩
theorem vs_6_thunk (b : Nat) (s : Stp) (a : Adr) (w : World) (hW : StrVar w 2 wordsS) (hB : BoxAt w b s a) (hA : s.At w a) (ho : s.ok) (hop : s.op = 11) : Thunk w 52 #[atB0 b] (itemsS s.items 0 true true false false (groupE s.names)) := by
  refine ⟨fun args W => by kernel_rfl, fun W hW2 => ?_⟩
  obtain ⟨hb, c0, c1, c2, c3, c4, c5⟩ := hB.below hW2
  have HM := hide (query_items_g s.src a.nA s.names.length a.nC a.oA s.others.length a.oC a.iA a.iC a.cA s.cond.length a.cC s.items 0 53 #[atB0 b] (groupE s.names) W (hW.below hW2) (hA.items.below hW2) ho.items hA.ci (by omega) (fun args W => by kernel_rfl) (fun k h E ec V hV hn => vs6_1_any b s a _ E ec V ((hW.below hW2).below hV) ((hB.below hW2).below hV) ((hA.below hW2).below hV) ho))
  clear hW hB hA ho hW2
  rw [hop] at c0
  generalize itemsS s.items 0 true true false false (groupE s.names) = v at *
  generalize s.names.length = l1 at *
  generalize s.others.length = l2 at *
  generalize s.items.length = l3 at *
  generalize s.cond.length = l4 at *
  go_enter Tryz.func52, Tryz.ntmps52
  go_wp2_with (go_at_call 46; refine (HM.out).mono ?_; rintro e w1 ⟨rfl, hb1⟩)
  go_ret
  exact ⟨rfl, hb1⟩
theorem vs_9_thunk (b : Nat) (s : Stp) (a : Adr) (w : World) (hW : StrVar w 2 wordsS) (hB : BoxAt w b s a) (hA : s.At w a) (ho : s.ok) (hop : s.op = 12) : Thunk w 57 #[atB0 b] (itemsS s.items 1 true true true false windowE) := by
  refine ⟨fun args W => by kernel_rfl, fun W hW2 => ?_⟩
  obtain ⟨hb, c0, c1, c2, c3, c4, c5⟩ := hB.below hW2
  have HM := hide (query_items_w s.src a.nA s.names.length a.nC a.oA s.others.length a.oC a.iA a.iC a.cA s.cond.length a.cC s.items 1 58 #[] windowE W (hW.below hW2) (hA.items.below hW2) ho.items hA.ci (by omega) (fun args W => by kernel_rfl) (fun k h E ec V hV hn => query_windowed_any _ E ec V ((hW.below hW2).below hV)))
  clear hW hB hA ho hW2
  rw [hop] at c0
  generalize itemsS s.items 1 true true true false windowE = v at *
  generalize s.names.length = l1 at *
  generalize s.others.length = l2 at *
  generalize s.items.length = l3 at *
  generalize s.cond.length = l4 at *
  go_enter Tryz.func57, Tryz.ntmps57
  go_wp2_with (go_at_call 46; refine (HM.out).mono ?_; rintro e w1 ⟨rfl, hb1⟩)
  go_ret
  exact ⟨rfl, hb1⟩
end Go.Proofs.YtmbeeefkpgfgmaaGreatDoor
namespace Go.Proofs.YtmbeeefkpgfgmaaGreatDoor
open Go.RowKit
def ValAt (s : Stp) : Prop := ∀ (a : Adr) (w : World), StrVar w 2 wordsS → UsedVar w → s.At w a → s.ok → unusedB s.op s.src s.names.length s.others.length s.items.length s.cond.length = false → Calls Tryz.prog 15 #[s.agg a] w fun e w' => e = .returned (.int .i64 (opS s)) ∧ Below w.heap.size w w'
theorem box_at {w w1 : World} {s : Stp} {a : Adr} {t : TypeId} (h : Below (w.heap.size + 1) (w.alloc (.cells (s.cells a).toArray t)) w1) : BoxAt w1 w.heap.size s a := by
  obtain ⟨m0, m1, m2, m3, m4, m5, hlw⟩ := box6 h
  exact ⟨hlw, m0, m1, m2, m3, m4, m5⟩
end Go.Proofs.YtmbeeefkpgfgmaaGreatDoor
