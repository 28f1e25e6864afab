/- StreamNone is proved: for every input the call returns true and its arguments read as they read before; the variables that the row lists are tied to the program's text. -/
import Derived.Test.YtoemaogfnimapabGreatDoorNon5
import Derived.Test.YtoemaogfnimapabGreatDoorNonW
import Derived.Test.YtoemaogfnimapabGreatDoorNonJ
import Derived.Test.YtoemaogfnimapabGreatDoorTieD
import Derived.Test.YtoemaogfnimapabGreatDoorCards
set_option maxRecDepth 100000
set_option linter.unusedVariables false
namespace Go.Proofs.YtoemaogfnimapabGreatDoor
open Go.ChangeShapes Go.WideShapes Go.ChangeAt Go.RowKit
theorem r_whole (os : Os) {H : Type} (enc : TypeId × Value → H) : DataW.whole enc Tryz.prog (worldW os).memory Tryz.f4.params.toList Rows.streamNoneSpec.vars false args0.toList 8 = some ([.nil, .agg [.lit (.int .i64 0), .lit (.int .i64 0), .lit (.bool false), .lit (.bool false)]], [], []) := by kernel_rfl
theorem r_sized (os : Os) {H : Type} (enc : TypeId × Value → H) : (OpenSpec.ofChange Rows.streamNoneSpec).bare.sizedB enc Tryz.prog Tryz.f4 false (worldW os).memory args0 8 = true := by kernel_rfl
theorem r_lifted (os : Os) (started : os.Started) (H : Type) (enc : TypeId × Value → H) (F : Stop.Interp) :
    ReturnsInHanded {} Tryz.checked os 4 .any ((OpenSpec.ofChange Rows.streamNoneSpec).preRow enc Tryz.prog Tryz.f4 Rows.streamNoneRow.domain false Rows.streamNoneRow.laid) (((OpenSpec.ofChange Rows.streamNoneSpec).at F).post enc Tryz.prog Tryz.f4 false true false false) := by
  refine returnsInHanded_of_row (C := Tryz.checked) (s := OpenSpec.ofChange Rows.streamNoneSpec) w_own started w_noInit Tryz.func4
    ⟨world1 os, fun _ _ => 0, ⟨#[], args0, []⟩, world1_os os, w_shaped os, (Input.okWide_of_okWideB (base := 0) (w_ok os)).1, (Input.okWide_of_okWideB (w_ok os)).2,
      OpenSpec.preRow_of_cond 8 (r_whole os enc) rfl (fun k hk => by cases hk) (r_sized os enc) (w_laid os), by
        simp only [Assume.holds]
        exact ⟨by simp, by simp, fun _ => Modest.zero, by simp, by simp⟩⟩ ?_
  intro W base args ds gs before hval hW _ _ _ hL _ _
  exact contract H enc W args ds gs before base hval hW
theorem r_named : Tryz.pinned.checked.prog.funcNamed "amanuensis/amanuensislaw28.StreamNone" = some 4 := by kernel_rfl
theorem streamNone_said : Rows.StreamNoneSaid :=
  OpenClaim.holds_of_cond 4 Tryz.f4 rfl rfl rfl rfl rfl rfl rfl ⟨rfl, rfl, rfl, rfl, rfl⟩ rfl rfl rfl rfl rfl r_named Tryz.func4 row_facts
    (of_decide_eq_true (by kernel_rfl)) (by unfold Func.isWrapper; first | (rw [if_pos (by decide +kernel)]; kernel_rfl) | (rw [if_neg (by decide +kernel)]; exact ⟨rfl, rfl⟩))
    (fun os started H enc _ F => by rw [OpenClaim.pre_eq_preRow]; exact r_lifted os started H enc F)
theorem r_looks : true = Tryz.pinned.checked.prog.looks [] := by kernel_rfl
theorem r_wants : ([22, 24].all fun u => !Tryz.prog.wantsStandIn u) = true := by kernel_rfl
theorem r_plain (f : FuncId) (fn : Func) (hf : Tryz.pinned.checked.prog.funcNamed "amanuensis/amanuensislaw28.StreamNone" = some f) (hfn : Tryz.pinned.checked.prog.funcs[f]? = some fn) :
    true = Tryz.pinned.checked.prog.looks [] ∧ ∀ (j : Nat) t, fn.params[j]? = some t → Tryz.pinned.checked.prog.wantsStandIn t = false := by
  obtain rfl : f = 4 := Option.some.inj (r_named.symm.trans hf) |>.symm
  obtain rfl : fn = Tryz.f4 := (Option.some.inj (Tryz.func4.symm.trans hfn)).symm
  refine ⟨r_looks, fun j t ht => ?_⟩
  rw [Tryz.params4] at ht
  have hm : t ∈ [22, 24] := by simpa using Array.mem_of_getElem? ht
  exact (show Tryz.prog.wantsStandIn t = false by simpa using List.all_eq_true.1 r_wants t hm)
theorem r_byText : Rows.streamNoneRow.wfByText (OpenSpec.ofChange Rows.streamNoneSpec) = true := by kernel_rfl
theorem r_main : Tryz.pinned.checked.prog.mainIs = some (Rows.streamNoneCard.stood.harness.1, Rows.streamNoneCard.stood.harness.2.toList) := by kernel_rfl
theorem r_none : Tryz.pinned.checked.prog.funcs.any Func.goes = false := by kernel_rfl
/-- Where no function starts a goroutine no closure does. -/
theorem goes_none {P : Program} (h : P.funcs.any Func.goes = false) (f : FuncId) : P.goes f = false := by
  have h1 : ∀ g : FuncId, (P.funcs[g]?).any Func.goes = false := fun g => by
    cases hg : P.funcs[g]? with
    | none => rfl
    | some fn =>
      rw [Option.any_some]
      cases hf : fn.goes with
      | false => rfl
      | true =>
        have := Array.any_eq_false.1 h g (Array.getElem?_eq_some_iff.1 hg).1
        rw [(Array.getElem?_eq_some_iff.1 hg).2, hf] at this
        exact absurd rfl this
  unfold Program.goes
  rw [h, Bool.and_false, Bool.or_false]
  exact List.any_eq_false.2 fun g _ => by rw [h1 g]; simp
theorem goesBy_none {P : Program} {c : OpenClaim} (h : P.funcs.any Func.goes = false) (hs : c.start = .entering) : false = c.goesBy P := by
  unfold OpenClaim.goesBy Program.goesAt Program.goesFrom
  rw [hs]
  cases P.funcNamed c.func with
  | none => rfl
  | some f => simp [goes_none h f]
theorem r_goes : false = Rows.streamNoneRow.goesBy Tryz.pinned.checked.prog := goesBy_none r_none rfl
/-- The card: the statement as it is given. -/
theorem streamNone_holds : Rows.StreamNoneCardSaid :=
  Claim7.holds_tied_plain_at .later [] _ _ _ _ streamNone_said (fun _ h => by cases h) r_byText (fun _ h => by cases h) streamNone_row_tie rfl ⟨rfl, rfl⟩ r_main rfl r_plain r_goes
#print axioms streamNone_holds
end Go.Proofs.YtoemaogfnimapabGreatDoor
