/- StreamNone: a world in which the listed variables lie as the program's text lays them. -/
import Derived.Test.YtoemaogfnimapabGreatDoorRows
import Derived.Lay
import Derived.LaidHandle
import Derived.KernelRfl
namespace Go.Proofs.YtoemaogfnimapabGreatDoor
open Go
abbrev laidL : List (String × DataW Unit) := Rows.streamNoneRow.laid
abbrev laidP : List (String × DataW Unit) := laidL.filter fun x => x.2.handleName?.isNone
/-- The block of errors.errorType, and what it holds. -/
noncomputable def etBlock : Nat := (Tryz.prog.globalNamed "errors.errorType").getD 0
noncomputable def etValue : Value := .iface (((Tryz.prog.cutTypes.find? (·.1 == "internal/reflectlite.rtype")).map (·.2)).getD 0) (.agg #[typeHandle Tryz.prog (((List.range Tryz.prog.types.size).find? fun t => Tryz.prog.rowNamed t [101, 114, 114, 111, 114]).getD 0)])
noncomputable def world0 (os : Os) : World :=
  { World.holding Tryz.prog os ⟨#[], #[], []⟩ with heap := (World.holding Tryz.prog os ⟨#[], #[], []⟩).heap.modify etBlock fun
      | .cells _ t frozen => .cells #[etValue] t frozen
      | o => o }
noncomputable def world1 (os : Os) : World := (world0 os).layVars Tryz.prog laidP
theorem world1_os (os : Os) : (world1 os).os = os := World.layVars_os _ _ _
/-- The arguments of the witness: no bytes, options that are all nought. -/
def args0 : Array Value := #[.slice none 0 0, .agg #[.int .i64 0, .int .i64 0, .bool false, .bool false]]
theorem laidMet_world1 {os : Os} (args : Array Value) (hf : (world0 os).layFits Tryz.prog laidP [] = true) (hi : (world0 os).layIfaces Tryz.prog laidP (world1 os) = true) :
    laidMet Tryz.prog laidP ((world1 os).forCall (fun _ _ => 0) ⟨#[], args, []⟩).memory := by
  have e1 : (laidP.filter fun x => (laidP.map (·.1)).contains x.1) = laidP := List.filter_eq_self.2 fun x hx => List.contains_iff_mem.2 (List.mem_map.2 ⟨x, hx, rfl⟩)
  have e2 : (laidP.filter fun x => !(laidP.map (·.1)).contains x.1) = [] := List.filter_eq_nil_iff.2 fun x hx => by rw [List.contains_iff_mem.2 (List.mem_map.2 ⟨x, hx, rfl⟩)]; simp
  have h : laidMet Tryz.prog laidP (world1 os) := laidMet_layVars (w0 := world0 os) (laidP.map (·.1)) [] (by rw [e1]; rfl) (by rw [e1]; exact hf) (by rw [e1]; exact hi) (by rw [e2]; exact LaidIn.none)
  exact h.of_heap (by simp [World.memory, World.forCall, Input.heap])
end Go.Proofs.YtoemaogfnimapabGreatDoor
