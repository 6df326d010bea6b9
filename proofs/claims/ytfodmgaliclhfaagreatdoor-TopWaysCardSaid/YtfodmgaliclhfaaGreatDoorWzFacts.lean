/- Lemmas. -/
import Derived.Test.YtfodmgaliclhfaaGreatDoorRows
import Derived.WalkKit
import Derived.JoinedOf
namespace Go.Proofs.YtfodmgaliclhfaaGreatDoor
set_option linter.unusedVariables false
set_option linter.unusedSimpArgs false
set_option maxRecDepth 100000
set_option maxHeartbeats 4000000
open Go.RowKit Go.Proofs.Tryz
theorem Uz {a b:Bool}(ha:a=true)(hb:b=true):(a&&b)=true:=by rw[ha,hb];rfl
theorem topWaysFacts:joinedFacts Tryz.pinned.checked.prog 5 f5 Rows.topWaysSpec Rows.topWaysRow=true:=by
 unfold joinedFacts;repeat' (with_reducible refine Uz ?_ ?_)
 all_goals (as_aux_lemma=>kernel_rfl)
end Go.Proofs.YtfodmgaliclhfaaGreatDoor
