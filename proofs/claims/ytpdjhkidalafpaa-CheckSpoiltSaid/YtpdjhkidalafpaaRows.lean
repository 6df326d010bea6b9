/-
  No cell of these rows narrows 'for every input' (looked for: loops, veiled, ifaces, maps, wideKeys, modest, calm, conditions, laid).
  DERIVED. THE GIVEN ROWS OF THIS SEAT. 9 by the template 'for every input the law returns true; each argument reads behind the call as it read before'; 0 by the template 'total and deterministic' (their statements: YtpdjhkidalafpaaTotals.lean).
  GIVEN WITH THE SEED: the statements are not yours to turn. If you find one false, say at which input.
  Laid BY PROGRAM, IN A SANDBOX (cutbox-rows.mjs): the forced cells as the released guide's own fill.sh prints them over the translation 1ee264168a0ab39e… (all of the seat's roots in one cut). By AI agents, Wed Nov 11 2026. No macro, syntax, notation, axiom, sorry.
-/
import Derived.Test.YtpdjhkidalafpaaChecked
import GoSem.Claim
import GoSem.ClaimJoined
import GoSem.ClaimMapViews
import Derived.JoinedTies
import Derived.KernelRfl
namespace Go.Proofs.Ytpdjhkidalafpaa
/- THE CELL 'sum', in the pinned program and in every row, IS THE sha256 OF THE DUMP (.gsa) THAT YtpdjhkidalafpaaProg.lean LOADS. Nothing in Lean hashes anything: it is a label: what it is worth is what the hold of that sum in a sandbox is worth. -/
noncomputable def Try.pinned : Pinned := { name := "ytpdjhkidalafpaa", sum := "1ee264168a0ab39ee62a459f55102159b3bd2e17f347d07db6a93d7e9d31ecca", checked := Try.checked }
namespace Rows
def none {H : Type} : Left H := { results := [], args := [] }

/-- 'quietuslaw14.CodeRuns': WHATEVER THE INPUT: true; the input reads as it did. -/
def codeRunsSpec : ChangeSpec := { name := "codeRuns", fn := fun _ => fun
  | [] => { results := [.lit (.bool true)], args := [] }
  | _ => none }
def codeRunsRow : OpenClaim := { program := "ytpdjhkidalafpaa", sum := "1ee264168a0ab39ee62a459f55102159b3bd2e17f347d07db6a93d7e9d31ecca", func := "quietus/quietuslaw14.CodeRuns", spec := "codeRuns", apart := false }
def CodeRunsSaid : Prop := codeRunsRow.holds Try.pinned (OpenSpec.ofChange codeRunsSpec)

/-- ITS FALSE NEIGHBOUR: 'it returns false'. Refute it at one input. -/
def codeRunsWrong : ChangeSpec := { name := "codeRuns", fn := fun _ => fun
  | [] => { results := [.lit (.bool false)], args := [] }
  | _ => none }
def CodeRunsWrongFalsely : Prop := codeRunsRow.holds Try.pinned (OpenSpec.ofChange codeRunsWrong)

/-- 'quietuslaw14.CodeNear': WHATEVER THE INPUT: true; the input reads as it did. -/
def codeNearSpec : ChangeSpec := { name := "codeNear", fn := fun _ => fun
  | [d1, d2, d3, d4, d5] => { results := [.lit (.bool true)], args := [d1, d2, d3, d4, d5] }
  | _ => none }
def codeNearRow : OpenClaim := { program := "ytpdjhkidalafpaa", sum := "1ee264168a0ab39ee62a459f55102159b3bd2e17f347d07db6a93d7e9d31ecca", func := "quietus/quietuslaw14.CodeNear", spec := "codeNear", apart := false }
def CodeNearSaid : Prop := codeNearRow.holds Try.pinned (OpenSpec.ofChange codeNearSpec)

/-- ITS FALSE NEIGHBOUR: 'it returns false'. Refute it at one input. -/
def codeNearWrong : ChangeSpec := { name := "codeNear", fn := fun _ => fun
  | [d1, d2, d3, d4, d5] => { results := [.lit (.bool false)], args := [d1, d2, d3, d4, d5] }
  | _ => none }
def CodeNearWrongFalsely : Prop := codeNearRow.holds Try.pinned (OpenSpec.ofChange codeNearWrong)

/-- 'quietuslaw14.CodeNames': WHATEVER THE INPUT: true; the input reads as it did. -/
def codeNamesSpec : ChangeSpec := { name := "codeNames", fn := fun _ => fun
  | [d1, d2] => { results := [.lit (.bool true)], args := [d1, d2] }
  | _ => none }
def codeNamesRow : OpenClaim := { program := "ytpdjhkidalafpaa", sum := "1ee264168a0ab39ee62a459f55102159b3bd2e17f347d07db6a93d7e9d31ecca", func := "quietus/quietuslaw14.CodeNames", spec := "codeNames", apart := false }
def CodeNamesSaid : Prop := codeNamesRow.holds Try.pinned (OpenSpec.ofChange codeNamesSpec)

/-- ITS FALSE NEIGHBOUR: 'it returns false'. Refute it at one input. -/
def codeNamesWrong : ChangeSpec := { name := "codeNames", fn := fun _ => fun
  | [d1, d2] => { results := [.lit (.bool false)], args := [d1, d2] }
  | _ => none }
def CodeNamesWrongFalsely : Prop := codeNamesRow.holds Try.pinned (OpenSpec.ofChange codeNamesWrong)

/-- 'quietuslaw14.CodeFields': WHATEVER THE INPUT: true; the input reads as it did. -/
def codeFieldsSpec : ChangeSpec := { name := "codeFields", fn := fun _ => fun
  | [d1, d2, d3] => { results := [.lit (.bool true)], args := [d1, d2, d3] }
  | _ => none }
def codeFieldsRow : OpenClaim := { program := "ytpdjhkidalafpaa", sum := "1ee264168a0ab39ee62a459f55102159b3bd2e17f347d07db6a93d7e9d31ecca", func := "quietus/quietuslaw14.CodeFields", spec := "codeFields", apart := false }
def CodeFieldsSaid : Prop := codeFieldsRow.holds Try.pinned (OpenSpec.ofChange codeFieldsSpec)

/-- ITS FALSE NEIGHBOUR: 'it returns false'. Refute it at one input. -/
def codeFieldsWrong : ChangeSpec := { name := "codeFields", fn := fun _ => fun
  | [d1, d2, d3] => { results := [.lit (.bool false)], args := [d1, d2, d3] }
  | _ => none }
def CodeFieldsWrongFalsely : Prop := codeFieldsRow.holds Try.pinned (OpenSpec.ofChange codeFieldsWrong)

/-- 'quietuslaw15.CheckRuns': WHATEVER THE INPUT: true; the input reads as it did. -/
def checkRunsSpec : ChangeSpec := { name := "checkRuns", fn := fun _ => fun
  | [] => { results := [.lit (.bool true)], args := [] }
  | _ => none }
def checkRunsRow : OpenClaim := { program := "ytpdjhkidalafpaa", sum := "1ee264168a0ab39ee62a459f55102159b3bd2e17f347d07db6a93d7e9d31ecca", func := "quietus/quietuslaw15.CheckRuns", spec := "checkRuns", apart := false }
def CheckRunsSaid : Prop := checkRunsRow.holds Try.pinned (OpenSpec.ofChange checkRunsSpec)

/-- ITS FALSE NEIGHBOUR: 'it returns false'. Refute it at one input. -/
def checkRunsWrong : ChangeSpec := { name := "checkRuns", fn := fun _ => fun
  | [] => { results := [.lit (.bool false)], args := [] }
  | _ => none }
def CheckRunsWrongFalsely : Prop := checkRunsRow.holds Try.pinned (OpenSpec.ofChange checkRunsWrong)

/-- 'quietuslaw15.CheckTells': WHATEVER THE INPUT: true; the input reads as it did. -/
def checkTellsSpec : ChangeSpec := { name := "checkTells", fn := fun _ => fun
  | [d1, d2] => { results := [.lit (.bool true)], args := [d1, d2] }
  | _ => none }
def checkTellsRow : OpenClaim := { program := "ytpdjhkidalafpaa", sum := "1ee264168a0ab39ee62a459f55102159b3bd2e17f347d07db6a93d7e9d31ecca", func := "quietus/quietuslaw15.CheckTells", spec := "checkTells", apart := false }
def CheckTellsSaid : Prop := checkTellsRow.holds Try.pinned (OpenSpec.ofChange checkTellsSpec)

/-- ITS FALSE NEIGHBOUR: 'it returns false'. Refute it at one input. -/
def checkTellsWrong : ChangeSpec := { name := "checkTells", fn := fun _ => fun
  | [d1, d2] => { results := [.lit (.bool false)], args := [d1, d2] }
  | _ => none }
def CheckTellsWrongFalsely : Prop := checkTellsRow.holds Try.pinned (OpenSpec.ofChange checkTellsWrong)

/-- 'quietuslaw15.CheckSpoilt': WHATEVER THE INPUT: true; the input reads as it did. -/
def checkSpoiltSpec : ChangeSpec := { name := "checkSpoilt", fn := fun _ => fun
  | [d1, d2, d3, d4] => { results := [.lit (.bool true)], args := [d1, d2, d3, d4] }
  | _ => none }
def checkSpoiltRow : OpenClaim := { program := "ytpdjhkidalafpaa", sum := "1ee264168a0ab39ee62a459f55102159b3bd2e17f347d07db6a93d7e9d31ecca", func := "quietus/quietuslaw15.CheckSpoilt", spec := "checkSpoilt", apart := false }
def CheckSpoiltSaid : Prop := checkSpoiltRow.holds Try.pinned (OpenSpec.ofChange checkSpoiltSpec)

/-- ITS FALSE NEIGHBOUR: 'it returns false'. Refute it at one input. -/
def checkSpoiltWrong : ChangeSpec := { name := "checkSpoilt", fn := fun _ => fun
  | [d1, d2, d3, d4] => { results := [.lit (.bool false)], args := [d1, d2, d3, d4] }
  | _ => none }
def CheckSpoiltWrongFalsely : Prop := checkSpoiltRow.holds Try.pinned (OpenSpec.ofChange checkSpoiltWrong)

/-- 'quietuslaw15.CheckMakes': WHATEVER THE INPUT: true; the input reads as it did. -/
def checkMakesSpec : ChangeSpec := { name := "checkMakes", fn := fun _ => fun
  | [d1, d2] => { results := [.lit (.bool true)], args := [d1, d2] }
  | _ => none }
def checkMakesRow : OpenClaim := { program := "ytpdjhkidalafpaa", sum := "1ee264168a0ab39ee62a459f55102159b3bd2e17f347d07db6a93d7e9d31ecca", func := "quietus/quietuslaw15.CheckMakes", spec := "checkMakes", apart := false }
def CheckMakesSaid : Prop := checkMakesRow.holds Try.pinned (OpenSpec.ofChange checkMakesSpec)

/-- ITS FALSE NEIGHBOUR: 'it returns false'. Refute it at one input. -/
def checkMakesWrong : ChangeSpec := { name := "checkMakes", fn := fun _ => fun
  | [d1, d2] => { results := [.lit (.bool false)], args := [d1, d2] }
  | _ => none }
def CheckMakesWrongFalsely : Prop := checkMakesRow.holds Try.pinned (OpenSpec.ofChange checkMakesWrong)

/-- 'quietuslaw15.CheckJumps': WHATEVER THE INPUT: true; the input reads as it did. -/
def checkJumpsSpec : ChangeSpec := { name := "checkJumps", fn := fun _ => fun
  | [d1, d2, d3] => { results := [.lit (.bool true)], args := [d1, d2, d3] }
  | _ => none }
def checkJumpsRow : OpenClaim := { program := "ytpdjhkidalafpaa", sum := "1ee264168a0ab39ee62a459f55102159b3bd2e17f347d07db6a93d7e9d31ecca", func := "quietus/quietuslaw15.CheckJumps", spec := "checkJumps", apart := false }
def CheckJumpsSaid : Prop := checkJumpsRow.holds Try.pinned (OpenSpec.ofChange checkJumpsSpec)

/-- ITS FALSE NEIGHBOUR: 'it returns false'. Refute it at one input. -/
def checkJumpsWrong : ChangeSpec := { name := "checkJumps", fn := fun _ => fun
  | [d1, d2, d3] => { results := [.lit (.bool false)], args := [d1, d2, d3] }
  | _ => none }
def CheckJumpsWrongFalsely : Prop := checkJumpsRow.holds Try.pinned (OpenSpec.ofChange checkJumpsWrong)

/- THE SECOND FORM. 'bulk': how many values and letters a reading holds, each counted each time it is reached (what is shared counts as often as it is met; a slice's spare places count too). A statement '..UptoSaid' is the law's where the arguments, and the package variables that the reading takes, are together of bulk at most 1048576: NARROWER than '..Said'. Prove '..Said' where nothing that the law and all that it calls make is longer than what came in: it says more and counts as full. Else prove '..UptoSaid'. A law counts once. -/
mutual
def uptoBulk {H : Type} : DataW H → Nat
  | .lit (.string bytes) => bytes.length + 1
  | .lit _ => 1
  | .nil => 1
  | .ptr d => uptoBulk d + 1
  | .slice elems spare => uptoBulkAll elems + uptoBulkAll spare + 1
  | .agg parts => uptoBulkAll parts + 1
  | .iface _ d => uptoBulk d + 1
  | .map entries => uptoBulkEntries entries + 1
  | .held _ => 1
def uptoBulkAll {H : Type} : List (DataW H) → Nat
  | [] => 0
  | d :: r => uptoBulk d + uptoBulkAll r
def uptoBulkEntries {H : Type} : List (Lit × DataW H) → Nat
  | [] => 0
  | x :: r => uptoBulkEntry x + uptoBulkEntries r
def uptoBulkEntry {H : Type} : Lit × DataW H → Nat
  | (.string bytes, d) => bytes.length + uptoBulk d + 1
  | (_, d) => uptoBulk d + 1
 end
def uptoSmall : (H : Type) → List (DataW H) → Bool := fun _ ds => decide (uptoBulkAll ds ≤ 1048576)
def OpenSpec.upto (s : _root_.Go.ChangeSpec) : _root_.Go.OpenSpec := { _root_.Go.OpenSpec.ofChange s with cond := some uptoSmall }

/-- 'quietuslaw14.CodeRuns', WHERE WHAT IT READS IS OF BULK AT MOST 1048576: true; the input reads as it did. -/
def codeRunsUptoRow : OpenClaim := { program := "ytpdjhkidalafpaa", sum := "1ee264168a0ab39ee62a459f55102159b3bd2e17f347d07db6a93d7e9d31ecca", func := "quietus/quietuslaw14.CodeRuns", spec := "codeRuns", apart := false, narrowed := true }
def CodeRunsUptoSaid : Prop := codeRunsUptoRow.holds Try.pinned (OpenSpec.upto codeRunsSpec)

/-- 'quietuslaw14.CodeNear', WHERE WHAT IT READS IS OF BULK AT MOST 1048576: true; the input reads as it did. -/
def codeNearUptoRow : OpenClaim := { program := "ytpdjhkidalafpaa", sum := "1ee264168a0ab39ee62a459f55102159b3bd2e17f347d07db6a93d7e9d31ecca", func := "quietus/quietuslaw14.CodeNear", spec := "codeNear", apart := false, narrowed := true }
def CodeNearUptoSaid : Prop := codeNearUptoRow.holds Try.pinned (OpenSpec.upto codeNearSpec)

/-- 'quietuslaw14.CodeNames', WHERE WHAT IT READS IS OF BULK AT MOST 1048576: true; the input reads as it did. -/
def codeNamesUptoRow : OpenClaim := { program := "ytpdjhkidalafpaa", sum := "1ee264168a0ab39ee62a459f55102159b3bd2e17f347d07db6a93d7e9d31ecca", func := "quietus/quietuslaw14.CodeNames", spec := "codeNames", apart := false, narrowed := true }
def CodeNamesUptoSaid : Prop := codeNamesUptoRow.holds Try.pinned (OpenSpec.upto codeNamesSpec)

/-- 'quietuslaw14.CodeFields', WHERE WHAT IT READS IS OF BULK AT MOST 1048576: true; the input reads as it did. -/
def codeFieldsUptoRow : OpenClaim := { program := "ytpdjhkidalafpaa", sum := "1ee264168a0ab39ee62a459f55102159b3bd2e17f347d07db6a93d7e9d31ecca", func := "quietus/quietuslaw14.CodeFields", spec := "codeFields", apart := false, narrowed := true }
def CodeFieldsUptoSaid : Prop := codeFieldsUptoRow.holds Try.pinned (OpenSpec.upto codeFieldsSpec)

/-- 'quietuslaw15.CheckRuns', WHERE WHAT IT READS IS OF BULK AT MOST 1048576: true; the input reads as it did. -/
def checkRunsUptoRow : OpenClaim := { program := "ytpdjhkidalafpaa", sum := "1ee264168a0ab39ee62a459f55102159b3bd2e17f347d07db6a93d7e9d31ecca", func := "quietus/quietuslaw15.CheckRuns", spec := "checkRuns", apart := false, narrowed := true }
def CheckRunsUptoSaid : Prop := checkRunsUptoRow.holds Try.pinned (OpenSpec.upto checkRunsSpec)

/-- 'quietuslaw15.CheckTells', WHERE WHAT IT READS IS OF BULK AT MOST 1048576: true; the input reads as it did. -/
def checkTellsUptoRow : OpenClaim := { program := "ytpdjhkidalafpaa", sum := "1ee264168a0ab39ee62a459f55102159b3bd2e17f347d07db6a93d7e9d31ecca", func := "quietus/quietuslaw15.CheckTells", spec := "checkTells", apart := false, narrowed := true }
def CheckTellsUptoSaid : Prop := checkTellsUptoRow.holds Try.pinned (OpenSpec.upto checkTellsSpec)

/-- 'quietuslaw15.CheckSpoilt', WHERE WHAT IT READS IS OF BULK AT MOST 1048576: true; the input reads as it did. -/
def checkSpoiltUptoRow : OpenClaim := { program := "ytpdjhkidalafpaa", sum := "1ee264168a0ab39ee62a459f55102159b3bd2e17f347d07db6a93d7e9d31ecca", func := "quietus/quietuslaw15.CheckSpoilt", spec := "checkSpoilt", apart := false, narrowed := true }
def CheckSpoiltUptoSaid : Prop := checkSpoiltUptoRow.holds Try.pinned (OpenSpec.upto checkSpoiltSpec)

/-- 'quietuslaw15.CheckMakes', WHERE WHAT IT READS IS OF BULK AT MOST 1048576: true; the input reads as it did. -/
def checkMakesUptoRow : OpenClaim := { program := "ytpdjhkidalafpaa", sum := "1ee264168a0ab39ee62a459f55102159b3bd2e17f347d07db6a93d7e9d31ecca", func := "quietus/quietuslaw15.CheckMakes", spec := "checkMakes", apart := false, narrowed := true }
def CheckMakesUptoSaid : Prop := checkMakesUptoRow.holds Try.pinned (OpenSpec.upto checkMakesSpec)

/-- 'quietuslaw15.CheckJumps', WHERE WHAT IT READS IS OF BULK AT MOST 1048576: true; the input reads as it did. -/
def checkJumpsUptoRow : OpenClaim := { program := "ytpdjhkidalafpaa", sum := "1ee264168a0ab39ee62a459f55102159b3bd2e17f347d07db6a93d7e9d31ecca", func := "quietus/quietuslaw15.CheckJumps", spec := "checkJumps", apart := false, narrowed := true }
def CheckJumpsUptoSaid : Prop := checkJumpsUptoRow.holds Try.pinned (OpenSpec.upto checkJumpsSpec)

end Rows
end Go.Proofs.Ytpdjhkidalafpaa
