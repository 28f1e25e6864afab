/- The tie of the listed variables to the program, third part: no place twice, each place a cell. -/
import Derived.Test.YtoemaogfnimapabGreatDoorTieA
set_option maxRecDepth 100000
namespace Go.Proofs.YtoemaogfnimapabGreatDoor
open Go
/-- No place twice: each place's number is marked in one great number. -/
def marks : Nat → List MemPlace → Bool
  | _, [] => true
  | acc, .cell b o :: ps => bif Nat.blt o 4096 then bif Nat.testBit acc (b * 4096 + o) then false else marks (acc ||| 1 <<< (b * 4096 + o)) ps else false
  | _, .map _ :: _ => false
theorem marks_sound : ∀ (ps : List MemPlace) (acc : Nat), marks acc ps = true → ps.Nodup ∧ ∀ p ∈ ps, ∃ b o, p = .cell b o ∧ o < 4096 ∧ Nat.testBit acc (b * 4096 + o) = false
  | [], _, _ => ⟨List.nodup_nil, fun _ h => by cases h⟩
  | .map _ :: _, _, h => by simp [marks] at h
  | .cell b o :: ps, acc, h => by
    simp only [marks] at h
    cases h1 : Nat.blt o 4096 with
    | false => rw [h1] at h; cases h
    | true =>
      rw [h1] at h
      cases h2 : Nat.testBit acc (b * 4096 + o) with
      | true => rw [h2] at h; cases h
      | false =>
        rw [h2] at h
        have ho : o < 4096 := by simpa using h1
        obtain ⟨hn, hall⟩ := marks_sound ps _ h
        have hsplit : ∀ k, Nat.testBit (acc ||| 1 <<< (b * 4096 + o)) k = false → Nat.testBit acc k = false ∧ k ≠ b * 4096 + o := by
          intro k hk
          rw [Nat.testBit_or, Bool.or_eq_false_iff] at hk
          refine ⟨hk.1, fun e => ?_⟩
          have h3 := hk.2
          rw [e, Nat.one_shiftLeft, Nat.testBit_two_pow_self] at h3
          cases h3
        refine ⟨List.nodup_cons.2 ⟨fun hm => ?_, hn⟩, fun p hp => ?_⟩
        · obtain ⟨b', o', e, _, hb⟩ := hall _ hm
          cases e
          exact (hsplit _ hb).2 rfl
        · rcases List.mem_cons.1 hp with rfl | hp
          · exact ⟨b, o, rfl, ho, h2⟩
          · obtain ⟨b', o', e, ho', hb⟩ := hall p hp
            exact ⟨b', o', e, ho', (hsplit _ hb).1⟩
theorem t_hm : ∀ os tape, (DataW.laidRun Tryz.prog (varsWorld Tryz.prog 400 (varsId Tryz.prog) os tape).memory 8 ((LL.filter fun x => x.2.handleName?.isNone).map (·.1))).map (fun x => marks 0 x.2) = some true := fun _ _ => by kernel_rfl
theorem t_hr : ∀ os tape, (DataW.laidRun Tryz.prog (varsWorld Tryz.prog 400 (varsId Tryz.prog) os tape).memory 8 ((LL.filter fun x => x.2.handleName?.isNone).map (·.1))).map (fun x => laidRowsB Tryz.prog (varsWorld Tryz.prog 400 (varsId Tryz.prog) os tape).memory x.2) = some true := fun _ _ => by kernel_rfl
theorem t_h2 : ∀ os tape, (DataW.laidRun Tryz.prog (varsWorld Tryz.prog 400 (varsId Tryz.prog) os tape).memory 8 ((LL.filter fun x => x.2.handleName?.isNone).map (·.1))).map (fun x => decide x.2.Nodup && laidRowsB Tryz.prog (varsWorld Tryz.prog 400 (varsId Tryz.prog) os tape).memory x.2) = some true := by
  intro os tape
  have hm := t_hm os tape
  have hr := t_hr os tape
  revert hm hr
  generalize (DataW.laidRun Tryz.prog (varsWorld Tryz.prog 400 (varsId Tryz.prog) os tape).memory 8 ((LL.filter fun x => x.2.handleName?.isNone).map (·.1))) = r
  intro hm hr
  cases r with
  | none => cases hm
  | some x =>
    simp only [Option.map_some, Option.some.injEq] at hm hr ⊢
    rw [hr, Bool.and_true]
    exact decide_eq_true (marks_sound _ _ hm).1
end Go.Proofs.YtoemaogfnimapabGreatDoor
