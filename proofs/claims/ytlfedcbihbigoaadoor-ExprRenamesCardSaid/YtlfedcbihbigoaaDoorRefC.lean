/- Contract of the reference's reader of a text literal. -/
import Derived.Test.YtlfedcbihbigoaaDoorTokD
set_option linter.unusedVariables false
set_option linter.unusedSimpArgs false
namespace Go.Proofs.YtlfedcbihbigoaaDoor
open Go.RowKit

def TextRes (r : Except Int (Tok × Nat)) (e : Ending) : Prop :=
  match r with
  | .ok x => e = .returned (.tuple #[str x.1.text, .int .i64 (x.2 : Nat), .int .i64 0])
  | .error c => c ≠ 0 ∧ e = .returned (.tuple #[str [], .int .i64 0, .int .i64 c])
theorem TextRes_err {r : Except Int (Tok × Nat)} {c : Int} (h : r = .error c) (hc : c ≠ 0) : TextRes r (.returned (.tuple #[str [], .int .i64 0, .int .i64 c])) := by subst h; exact ⟨hc, rfl⟩
theorem TextRes_ok {r : Except Int (Tok × Nat)} {t : Tok} {n : Nat} (h : r = .ok (t, n)) {m : Int} (hm : m = n) : TextRes r (.returned (.tuple #[str t.text, .int .i64 m, .int .i64 0])) := by subst h hm; rfl
theorem byteV_39 {c : UInt8} (h : c.toNat = 39) : byteV c = .int .u8 39 := by unfold byteV; rw [h]; rfl

end Go.Proofs.YtlfedcbihbigoaaDoor
