/-
  NARROWER THAN 'FOR EVERY INPUT', by the rows' own cells (each row's printed sentence says how): CodeTells: laid.
  DERIVED. THE GIVEN ROWS OF THIS SEAT. 1 by the template 'for every input the law returns true; each argument reads behind the call as it read before'; 0 by the template 'total and deterministic' (their statements: YtpdjhkidalafpaaDoorTotals.lean).
  GIVEN WITH THE SEED: the statements are not yours to turn. If you find one false, say at which input.
  Laid BY PROGRAM, IN A SANDBOX (cutbox-rows.mjs): the forced cells as the released guide's own fill.sh prints them over the translation 5518dda4ca55411c… (all of the seat's roots in one cut). By AI agents, Wed Nov 11 2026. No macro, syntax, notation, axiom, sorry.
-/
import Derived.Test.YtpdjhkidalafpaaDoorChecked
import GoSem.Claim
import GoSem.ClaimJoined
import GoSem.ClaimMapViews
import Derived.JoinedTies
import Derived.KernelRfl
namespace Go.Proofs.YtpdjhkidalafpaaDoor
/- THE CELL 'sum', in the pinned program and in every row, IS THE sha256 OF THE DUMP (.gsa) THAT YtpdjhkidalafpaaDoorProg.lean LOADS. Nothing in Lean hashes anything: it is a label: what it is worth is what the hold of that sum in a sandbox is worth. -/
noncomputable def Tryd.pinned : Pinned := { name := "ytpdjhkidalafpaadoor", sum := "5518dda4ca55411c3823b010444dc97125f462df37b1e17765987378b0a3b329", checked := Tryd.checked }
namespace Rows
def none {H : Type} : Left H := { results := [], args := [] }

/- WHAT THE LISTED PACKAGE-LEVEL VARIABLES READ AS WHEN THE CALL BEGINS. Each datum BY PROGRAM (the guide's laid-datum.mjs) off the statement by which the dump's own 'gosem.cut.vars' lays the variable. In a bare row this is a premise. The card (YtpdjhkidalafpaaDoorCards.lean) ties it to the program's text. -/
def laid_quietus_quietusref13_names {H : Type} : DataW H := .agg [.lit (.string [108, 105, 115, 116, 46, 97, 100, 100]), .lit (.string [108, 105, 115, 116, 46, 99, 117, 116]), .lit (.string [108, 105, 115, 116, 46, 104, 97, 115]), .lit (.string [116, 97, 98, 108, 101, 46, 112, 117, 116]), .lit (.string [116, 97, 98, 108, 101, 46, 103, 101, 116]), .lit (.string [116, 97, 98, 108, 101, 46, 100, 101, 108]), .lit (.string [113, 117, 101, 117, 101, 46, 112, 117, 115, 104]), .lit (.string [113, 117, 101, 117, 101, 46, 116, 97, 107, 101]), .lit (.string [116, 114, 101, 101, 46, 115, 101, 116]), .lit (.string [116, 114, 101, 101, 46, 102, 105, 110, 100]), .lit (.string [116, 114, 101, 101, 46, 101, 114, 97, 115, 101]), .lit (.string [116, 114, 101, 101, 46, 99, 111, 117, 110, 116])]

/-- 'quietuslaw14.CodeTells': WHATEVER THE INPUT: true; the input reads as it did. -/
def codeTellsSpec : ChangeSpec := { name := "codeTells", fn := fun _ => fun
  | [d1, d2, d3, d4] => { results := [.lit (.bool true)], args := [d1, d2, d3, d4] }
  | _ => none }
def codeTellsRow : OpenClaim := { program := "ytpdjhkidalafpaadoor", sum := "5518dda4ca55411c3823b010444dc97125f462df37b1e17765987378b0a3b329", func := "quietus/quietuslaw14.CodeTells", spec := "codeTells", named := ["quietus/quietusref13.names"], apart := false, laid := [("quietus/quietusref13.names", laid_quietus_quietusref13_names)] }
def CodeTellsSaid : Prop := codeTellsRow.holds Tryd.pinned (OpenSpec.ofChange codeTellsSpec)

/-- ITS FALSE NEIGHBOUR: 'it returns false'. Refute it at one input. -/
def codeTellsWrong : ChangeSpec := { name := "codeTells", fn := fun _ => fun
  | [d1, d2, d3, d4] => { results := [.lit (.bool false)], args := [d1, d2, d3, d4] }
  | _ => none }
def CodeTellsWrongFalsely : Prop := codeTellsRow.holds Tryd.pinned (OpenSpec.ofChange codeTellsWrong)

/- THE SECOND FORM. 'bulk': how many values and letters a reading holds, each counted each time it is reached (what is shared counts as often as it is met; a slice's spare places count too). A statement '..UptoSaid' is the law's where the arguments, and the package variables that the reading takes, are together of bulk at most 1048576: NARROWER than '..Said'. Prove '..Said' where nothing that the law and all that it calls make is longer than what came in: it says more and counts as full. Else prove '..UptoSaid'. A law counts once. -/
mutual
def uptoBulk {H : Type} : DataW H → Nat
  | .lit (.string bytes) => bytes.length + 1
  | .lit _ => 1
  | .nil => 1
  | .ptr d => uptoBulk d + 1
  | .slice elems spare => uptoBulkAll elems + uptoBulkAll spare + 1
  | .agg parts => uptoBulkAll parts + 1
  | .iface _ d => uptoBulk d + 1
  | .map entries => uptoBulkEntries entries + 1
  | .held _ => 1
def uptoBulkAll {H : Type} : List (DataW H) → Nat
  | [] => 0
  | d :: r => uptoBulk d + uptoBulkAll r
def uptoBulkEntries {H : Type} : List (Lit × DataW H) → Nat
  | [] => 0
  | x :: r => uptoBulkEntry x + uptoBulkEntries r
def uptoBulkEntry {H : Type} : Lit × DataW H → Nat
  | (.string bytes, d) => bytes.length + uptoBulk d + 1
  | (_, d) => uptoBulk d + 1
 end
def uptoSmall : (H : Type) → List (DataW H) → Bool := fun _ ds => decide (uptoBulkAll ds ≤ 1048576)
def OpenSpec.upto (s : _root_.Go.ChangeSpec) : _root_.Go.OpenSpec := { _root_.Go.OpenSpec.ofChange s with cond := some uptoSmall }

/-- 'quietuslaw14.CodeTells', WHERE WHAT IT READS IS OF BULK AT MOST 1048576: true; the input reads as it did. -/
def codeTellsUptoRow : OpenClaim := { program := "ytpdjhkidalafpaadoor", sum := "5518dda4ca55411c3823b010444dc97125f462df37b1e17765987378b0a3b329", func := "quietus/quietuslaw14.CodeTells", spec := "codeTells", named := ["quietus/quietusref13.names"], apart := false, laid := [("quietus/quietusref13.names", laid_quietus_quietusref13_names)], narrowed := true }
def CodeTellsUptoSaid : Prop := codeTellsUptoRow.holds Tryd.pinned (OpenSpec.upto codeTellsSpec)

end Rows
end Go.Proofs.YtpdjhkidalafpaaDoor
