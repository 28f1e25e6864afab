/- StreamNone: the closed facts of the row's form. -/
import Derived.Test.YtoemaogfnimapabGreatDoorRows
import Derived.JoinedCond
set_option maxRecDepth 100000
namespace Go.Proofs.YtoemaogfnimapabGreatDoor
open Go
set_option maxHeartbeats 100000000 in
theorem row_facts : joinedFacts Tryz.pinned.checked.prog 4 Tryz.f4 (OpenSpec.ofChange Rows.streamNoneSpec).bare Rows.streamNoneRow = true := by
  unfold joinedFacts
  simp only [Bool.and_eq_true]
  repeat' apply And.intro
  all_goals (as_aux_lemma => kernel_rfl)
end Go.Proofs.YtoemaogfnimapabGreatDoor
