/- StreamNone: the closed facts on the world of the witness. -/
import Derived.Test.YtoemaogfnimapabGreatDoorNonD
import Derived.JoinedCond
import Derived.Deep.DeepHandedRow
set_option maxRecDepth 100000
namespace Go.Proofs.YtoemaogfnimapabGreatDoor
open Go
/-- The world of the witness, as the call begins. -/
noncomputable abbrev worldW (os : Os) : World := (world1 os).forCall (fun _ _ => 0) ⟨#[], args0, []⟩
theorem w_fits (os : Os) : (world0 os).layFits Tryz.prog laidP [] = true := by kernel_rfl
theorem w_ifaces (os : Os) : (world0 os).layIfaces Tryz.prog laidP (world1 os) = true := by kernel_rfl
theorem w_zip (os : Os) : (worldW os).variablesZipB Tryz.prog = true := by kernel_rfl
theorem w_old (os : Os) : ((worldW os).heap.toList.drop Tryz.prog.globals.size).take ((begin Tryz.prog (fun _ _ => 0) default).world.heap.size - Tryz.prog.globals.size) = (begin Tryz.prog (fun _ _ => 0) default).world.heap.toList.drop Tryz.prog.globals.size := by kernel_rfl
theorem w_ok (os : Os) : Input.okWideB Tryz.prog (worldW os) 4 ⟨#[], args0, []⟩ = true := by kernel_rfl
theorem w_handle (os : Os) : (laidL.filter fun x => x.2.handleName?.isSome).all (handleAtB Tryz.prog (worldW os).memory) = true := by kernel_rfl
theorem w_laid (os : Os) : laidMetH Tryz.prog laidL (worldW os).memory := laidMetH_of_parts (laidMet_world1 args0 (w_fits os) (w_ifaces os)) (w_handle os)
theorem w_shaped (os : Os) : (worldW os).Shaped Tryz.prog := World.shaped_of_ZipB (w_zip os) (w_old os)
theorem w_own : ownKnob Tryz.prog.godebug = none := by kernel_rfl
theorem w_noInit : Tryz.prog.inits.idxOf? 4 = none := by kernel_rfl
end Go.Proofs.YtoemaogfnimapabGreatDoor
