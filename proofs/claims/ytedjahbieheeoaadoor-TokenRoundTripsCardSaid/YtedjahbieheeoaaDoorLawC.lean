/- The law's sanity check. -/
import Derived.Test.YtedjahbieheeoaaDoorLawB
set_option linter.unusedVariables false
set_option linter.unusedSimpArgs false
namespace Go.Proofs.YtedjahbieheeoaaDoor
open Go.RowKit

set_option maxRecDepth 100000 in
set_option maxHeartbeats 2000000 in
theorem law7_known_any (w : World) (hG : Glob w) : Calls Tryd.prog 9 #[] w fun e w' => e = .returned (.bool true) ∧ Below w.heap.size w w' := by
  have HG := hide hG; clear hG
  go_enter Tryd.func9, Tryd.ntmps9
  go_wp2_with fail
  refine (token_Split_any _ _ HG.out (by decide)).mono ?_
  rintro e w1 ⟨hres, hb1⟩
  rw [show splitS (bs ⟨#[97, 62, 61, 49, 32, 39, 105, 116, 39, 39, 115, 39]⟩) = _ from known1] at hres
  obtain ⟨A, c, he, hown⟩ := hres
  obtain rfl : e = .returned (.tuple #[.slice A 5 c, .int .i64 0, .int .i64 0]) := he
  have hta := ToksAt_of_own hown
  clear hown
  have HG1 := hide (HG.out.below hb1)
  go_wp2_with fail
  refine (token_Split_any _ _ HG1.out (by decide)).mono ?_
  rintro e w2 ⟨hres, hb2⟩
  rw [show splitS (bs ⟨#[120, 32, 57, 97]⟩) = _ from known2] at hres
  obtain rfl : e = .returned (.tuple #[.slice none 0 0, .int .i64 2, .int .i64 3]) := hres
  have HG2 := hide (HG1.out.below hb2)
  have hta2 := hta.below hb2
  have hb := hb1.trans (hb2.mono hb1.size)
  clear hta
  rcases hta2 with h | ⟨g, off, rfl, hg, hc⟩
  · cases h
  have h1 : w2.cell? ⟨g, off + 4 + 1, none⟩ = some (str [62, 61]) := (hc 1 (by decide)).2.1
  have h2 : w2.cell? ⟨g, off + 8 + 2, none⟩ = some (.int .i64 1) := (hc 2 (by decide)).2.2.1
  have h3 : w2.cell? ⟨g, off + 12 + 1, none⟩ = some (str [105, 116, 39, 115]) := (hc 3 (by decide)).2.1
  have h4 : w2.cell? ⟨g, off + 16 + 3, none⟩ = some (.int .i64 12) := (hc 4 (by decide)).2.2.2
  clear hc hb1 hb2
  have HR := hide (show resB (bs ⟨#[115, 101, 108, 102]⟩) = true from by decide)
  go_wp2_with (go_at_call 12; refine (token_Reserved_any _ _ HG2.out).mono ?_; rintro e w' ⟨rfl, rfl⟩; rw [HR.out])
  go_ret
  exact ⟨rfl, hb⟩

end Go.Proofs.YtedjahbieheeoaaDoor
