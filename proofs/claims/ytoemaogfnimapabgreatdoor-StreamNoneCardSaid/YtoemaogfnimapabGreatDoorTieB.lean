/- The tie of the listed variables to the program, second part: what the start-up code lays. -/
import Derived.Test.YtoemaogfnimapabGreatDoorTieA
set_option maxRecDepth 100000
namespace Go.Proofs.YtoemaogfnimapabGreatDoor
open Go
theorem t_hd : ∀ os tape, varsDone Tryz.prog 400 (varsId Tryz.prog) os tape = true := fun _ _ => by kernel_rfl
theorem t_h1 : ∀ os tape, (DataW.laidRun Tryz.prog (varsWorld Tryz.prog 400 (varsId Tryz.prog) os tape).memory 8 ((LL.filter fun x => x.2.handleName?.isNone).map (·.1))).map (·.1) = some (LL.filter fun x => x.2.handleName?.isNone) := fun _ _ => by kernel_rfl
theorem t_h3 : ∀ os tape, (LL.filter fun x => x.2.handleName?.isSome).all (handleAtB Tryz.prog (varsWorld Tryz.prog 400 (varsId Tryz.prog) os tape).memory) = true := fun _ _ => by kernel_rfl
end Go.Proofs.YtoemaogfnimapabGreatDoor
