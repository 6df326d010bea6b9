/- Lemmas; no conditions. -/
import Derived.Test.YtfodmgaliclhfaaGreatDoorRows
import Derived.WalkKit
import Derived.JoinedOf
namespace Go.Proofs.YtfodmgaliclhfaaGreatDoor
set_option linter.unusedVariables false
set_option linter.unusedSimpArgs false
set_option maxRecDepth 100000
set_option maxHeartbeats 4000000
open Go.RowKit
theorem and2 {a b:Bool}(ha:a=true)(hb:b=true):(a&&b)=true:=by rw[ha,hb];rfl
theorem topCounterFacts:joinedFacts Tryz.pinned.checked.prog 4 Tryz.f4 Rows.topCounterSpec Rows.topCounterRow=true:=by
 unfold joinedFacts;repeat' (with_reducible refine and2 ?_ ?_)
 all_goals (as_aux_lemma=>kernel_rfl)
end Go.Proofs.YtfodmgaliclhfaaGreatDoor
