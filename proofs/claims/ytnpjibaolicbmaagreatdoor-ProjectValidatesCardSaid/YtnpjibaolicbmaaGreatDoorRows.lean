/-
  NARROWER THAN 'FOR EVERY INPUT', by the rows' own cells (each row's printed sentence says how): ProjectValidates: laid · ProjectDefinitions: laid.
  DERIVED. THE GIVEN ROWS OF THIS SEAT. 2 by the template 'for every input the law returns true; each argument reads behind the call as it read before'; 0 by the template 'total and deterministic' (their statements: YtnpjibaolicbmaaGreatDoorTotals.lean).
  GIVEN WITH THE SEED: the statements are not yours to turn. If you find one false, say at which input.
  Laid BY PROGRAM, IN A SANDBOX (cutbox-rows.mjs): the forced cells as the released guide's own fill.sh prints them over the translation 3f3401f4f4c1736a… (all of the seat's roots in one cut). By AI agents, Wed Nov 11 2026. No macro, syntax, notation, axiom, sorry.
-/
import Derived.Test.YtnpjibaolicbmaaGreatDoorChecked
import GoSem.Claim
import GoSem.ClaimJoined
import GoSem.ClaimMapViews
import Derived.JoinedTies
import Derived.KernelRfl
namespace Go.Proofs.YtnpjibaolicbmaaGreatDoor
/- THE CELL 'sum', in the pinned program and in every row, IS THE sha256 OF THE DUMP (.gsa) THAT YtnpjibaolicbmaaGreatDoorProg.lean LOADS. Nothing in Lean hashes anything: it is a label: what it is worth is what the hold of that sum in a sandbox is worth. -/
noncomputable def Tryz.pinned : Pinned := { name := "ytnpjibaolicbmaagreatdoor", sum := "3f3401f4f4c1736abc4fabc5725cce47844527b8994bf2df40483cb43dfe954e", checked := Tryz.checked }
namespace Rows
def none {H : Type} : Left H := { results := [], args := [] }

/- WHAT THE LISTED PACKAGE-LEVEL VARIABLES READ AS WHEN THE CALL BEGINS. Each datum BY PROGRAM (the guide's laid-datum.mjs) off the statement by which the dump's own 'gosem.cut.vars' lays the variable. In a bare row this is a premise. The card (YtnpjibaolicbmaaGreatDoorCards.lean) ties it to the program's text. -/
def laid_warehouse_token_words {H : Type} : DataW H := .slice [.lit (.string [97, 110, 100]), .lit (.string [111, 114]), .lit (.string [110, 111, 116]), .lit (.string [110, 117, 108, 108]), .lit (.string [116, 114, 117, 101]), .lit (.string [102, 97, 108, 115, 101]), .lit (.string [98, 121]), .lit (.string [115, 101, 108, 102])] []
def laid_warehouse_macro_builtin {H : Type} : DataW H := .slice [.lit (.string [105, 102]), .lit (.string [99, 111, 97, 108, 101, 115, 99, 101]), .lit (.string [105, 115, 110, 117, 108, 108]), .lit (.string [108, 101, 110, 103, 116, 104]), .lit (.string [100, 97, 121])] []
def laid_warehouse_query_used {H : Type} : DataW H := .agg [.agg [.lit (.bool true), .lit (.bool false), .lit (.bool false), .lit (.bool false), .lit (.bool false)], .agg [.lit (.bool false), .lit (.bool false), .lit (.bool false), .lit (.bool false), .lit (.bool true)], .agg [.lit (.bool false), .lit (.bool false), .lit (.bool false), .lit (.bool true), .lit (.bool false)], .agg [.lit (.bool false), .lit (.bool true), .lit (.bool false), .lit (.bool false), .lit (.bool false)], .agg [.lit (.bool true), .lit (.bool true), .lit (.bool true), .lit (.bool true), .lit (.bool false)], .agg [.lit (.bool true), .lit (.bool true), .lit (.bool true), .lit (.bool true), .lit (.bool false)], .agg [.lit (.bool true), .lit (.bool true), .lit (.bool true), .lit (.bool false), .lit (.bool false)], .agg [.lit (.bool true), .lit (.bool true), .lit (.bool true), .lit (.bool false), .lit (.bool false)], .agg [.lit (.bool true), .lit (.bool false), .lit (.bool false), .lit (.bool false), .lit (.bool false)], .agg [.lit (.bool true), .lit (.bool false), .lit (.bool false), .lit (.bool false), .lit (.bool false)], .agg [.lit (.bool false), .lit (.bool false), .lit (.bool false), .lit (.bool false), .lit (.bool false)], .agg [.lit (.bool false), .lit (.bool true), .lit (.bool false), .lit (.bool true), .lit (.bool false)], .agg [.lit (.bool false), .lit (.bool true), .lit (.bool true), .lit (.bool true), .lit (.bool false)]]

/-- 'warehouselaw12.ProjectValidates': WHATEVER THE INPUT: true; the input reads as it did. -/
def projectValidatesSpec : ChangeSpec := { name := "projectValidates", fn := fun _ => fun
  | [d1, d2, d3, d4] => { results := [.lit (.bool true)], args := [d1, d2, d3, d4] }
  | _ => none }
def projectValidatesRow : OpenClaim := { program := "ytnpjibaolicbmaagreatdoor", sum := "3f3401f4f4c1736abc4fabc5725cce47844527b8994bf2df40483cb43dfe954e", func := "warehouse/warehouselaw12.ProjectValidates", spec := "projectValidates", inPlace := ["internal/bytealg.IndexByteString", "internal/bytealg.IndexString"], unfollowed := true, recurses := true, named := ["internal/bytealg.MaxLen", "warehouse/token.words", "warehouse/macro.builtin", "warehouse/query.used"], apart := false, laid := [("warehouse/token.words", laid_warehouse_token_words), ("warehouse/macro.builtin", laid_warehouse_macro_builtin), ("warehouse/query.used", laid_warehouse_query_used)] }
def ProjectValidatesSaid : Prop := projectValidatesRow.holds Tryz.pinned (OpenSpec.ofChange projectValidatesSpec)

/-- ITS FALSE NEIGHBOUR: 'it returns false'. Refute it at one input. -/
def projectValidatesWrong : ChangeSpec := { name := "projectValidates", fn := fun _ => fun
  | [d1, d2, d3, d4] => { results := [.lit (.bool false)], args := [d1, d2, d3, d4] }
  | _ => none }
def ProjectValidatesWrongFalsely : Prop := projectValidatesRow.holds Tryz.pinned (OpenSpec.ofChange projectValidatesWrong)

/-- 'warehouselaw12.ProjectDefinitions': WHATEVER THE INPUT: true; the input reads as it did. -/
def projectDefinitionsSpec : ChangeSpec := { name := "projectDefinitions", fn := fun _ => fun
  | [d1, d2, d3, d4] => { results := [.lit (.bool true)], args := [d1, d2, d3, d4] }
  | _ => none }
def projectDefinitionsRow : OpenClaim := { program := "ytnpjibaolicbmaagreatdoor", sum := "3f3401f4f4c1736abc4fabc5725cce47844527b8994bf2df40483cb43dfe954e", func := "warehouse/warehouselaw12.ProjectDefinitions", spec := "projectDefinitions", inPlace := ["internal/bytealg.IndexByteString", "internal/bytealg.IndexString"], unfollowed := true, recurses := true, named := ["internal/bytealg.MaxLen", "warehouse/token.words", "warehouse/macro.builtin", "warehouse/query.used"], apart := false, laid := [("warehouse/token.words", laid_warehouse_token_words), ("warehouse/macro.builtin", laid_warehouse_macro_builtin), ("warehouse/query.used", laid_warehouse_query_used)] }
def ProjectDefinitionsSaid : Prop := projectDefinitionsRow.holds Tryz.pinned (OpenSpec.ofChange projectDefinitionsSpec)

/-- ITS FALSE NEIGHBOUR: 'it returns false'. Refute it at one input. -/
def projectDefinitionsWrong : ChangeSpec := { name := "projectDefinitions", fn := fun _ => fun
  | [d1, d2, d3, d4] => { results := [.lit (.bool false)], args := [d1, d2, d3, d4] }
  | _ => none }
def ProjectDefinitionsWrongFalsely : Prop := projectDefinitionsRow.holds Tryz.pinned (OpenSpec.ofChange projectDefinitionsWrong)

/- THE SECOND FORM. 'bulk': how many values and letters a reading holds, each counted each time it is reached (what is shared counts as often as it is met; a slice's spare places count too). A statement '..UptoSaid' is the law's where the arguments, and the package variables that the reading takes, are together of bulk at most 1048576: NARROWER than '..Said'. Prove '..Said' where nothing that the law and all that it calls make is longer than what came in: it says more and counts as full. Else prove '..UptoSaid'. A law counts once. -/
mutual
def uptoBulk {H : Type} : DataW H → Nat
  | .lit (.string bytes) => bytes.length + 1
  | .lit _ => 1
  | .nil => 1
  | .ptr d => uptoBulk d + 1
  | .slice elems spare => uptoBulkAll elems + uptoBulkAll spare + 1
  | .agg parts => uptoBulkAll parts + 1
  | .iface _ d => uptoBulk d + 1
  | .map entries => uptoBulkEntries entries + 1
  | .held _ => 1
def uptoBulkAll {H : Type} : List (DataW H) → Nat
  | [] => 0
  | d :: r => uptoBulk d + uptoBulkAll r
def uptoBulkEntries {H : Type} : List (Lit × DataW H) → Nat
  | [] => 0
  | x :: r => uptoBulkEntry x + uptoBulkEntries r
def uptoBulkEntry {H : Type} : Lit × DataW H → Nat
  | (.string bytes, d) => bytes.length + uptoBulk d + 1
  | (_, d) => uptoBulk d + 1
 end
def uptoSmall : (H : Type) → List (DataW H) → Bool := fun _ ds => decide (uptoBulkAll ds ≤ 1048576)
def OpenSpec.upto (s : _root_.Go.ChangeSpec) : _root_.Go.OpenSpec := { _root_.Go.OpenSpec.ofChange s with cond := some uptoSmall }

/-- 'warehouselaw12.ProjectValidates', WHERE WHAT IT READS IS OF BULK AT MOST 1048576: true; the input reads as it did. -/
def projectValidatesUptoRow : OpenClaim := { program := "ytnpjibaolicbmaagreatdoor", sum := "3f3401f4f4c1736abc4fabc5725cce47844527b8994bf2df40483cb43dfe954e", func := "warehouse/warehouselaw12.ProjectValidates", spec := "projectValidates", inPlace := ["internal/bytealg.IndexByteString", "internal/bytealg.IndexString"], unfollowed := true, recurses := true, named := ["internal/bytealg.MaxLen", "warehouse/token.words", "warehouse/macro.builtin", "warehouse/query.used"], apart := false, laid := [("warehouse/token.words", laid_warehouse_token_words), ("warehouse/macro.builtin", laid_warehouse_macro_builtin), ("warehouse/query.used", laid_warehouse_query_used)], narrowed := true }
def ProjectValidatesUptoSaid : Prop := projectValidatesUptoRow.holds Tryz.pinned (OpenSpec.upto projectValidatesSpec)

/-- 'warehouselaw12.ProjectDefinitions', WHERE WHAT IT READS IS OF BULK AT MOST 1048576: true; the input reads as it did. -/
def projectDefinitionsUptoRow : OpenClaim := { program := "ytnpjibaolicbmaagreatdoor", sum := "3f3401f4f4c1736abc4fabc5725cce47844527b8994bf2df40483cb43dfe954e", func := "warehouse/warehouselaw12.ProjectDefinitions", spec := "projectDefinitions", inPlace := ["internal/bytealg.IndexByteString", "internal/bytealg.IndexString"], unfollowed := true, recurses := true, named := ["internal/bytealg.MaxLen", "warehouse/token.words", "warehouse/macro.builtin", "warehouse/query.used"], apart := false, laid := [("warehouse/token.words", laid_warehouse_token_words), ("warehouse/macro.builtin", laid_warehouse_macro_builtin), ("warehouse/query.used", laid_warehouse_query_used)], narrowed := true }
def ProjectDefinitionsUptoSaid : Prop := projectDefinitionsUptoRow.holds Tryz.pinned (OpenSpec.upto projectDefinitionsSpec)

end Rows
end Go.Proofs.YtnpjibaolicbmaaGreatDoor
