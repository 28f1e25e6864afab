/- StreamNone: the contracts of what a converter of streams is made by. -/
import Derived.Test.YtoemaogfnimapabGreatDoorRep
import Derived.Handy
import Derived.Deep.RegionHeld3
set_option maxRecDepth 100000
set_option linter.unusedVariables false
set_option linter.unusedSimpArgs false
namespace Go.Proofs.YtoemaogfnimapabGreatDoor
open Go.RowKit
/-- Options, as a value. -/
def optV (t p : Int) (m x : Bool) : Value := .agg #[.int .i64 t, .int .i64 p, .bool m, .bool x]
theorem may_3 (p : Int) (m x : Bool) (w : World) : Calls Tryz.prog 22 #[.agg #[.int .i64 3, .int .i64 p, .bool m, .bool x]] w fun e w' => e = .returned (.bool false) ∧ w.alloc (.cells #[.int .i64 3, .int .i64 p, .bool m, .bool x] 24) = w' := by
  go_enter Tryz.func22, Tryz.ntmps22
  go_wp2
  go_ret
  exact ⟨rfl, rfl⟩
theorem may_2 (p : Int) (m x : Bool) (w : World) : Calls Tryz.prog 22 #[.agg #[.int .i64 2, .int .i64 p, .bool m, .bool x]] w fun e w' => e = .returned (.bool true) ∧ w.alloc (.cells #[.int .i64 2, .int .i64 p, .bool m, .bool x] 24) = w' := by
  go_enter Tryz.func22, Tryz.ntmps22
  go_wp2
  go_ret
  exact ⟨rfl, rfl⟩
theorem new_3 (p : Int) (m x : Bool) (w : World) : Calls Tryz.prog 10 #[.agg #[.int .i64 3, .int .i64 p, .bool m, .bool x]] w fun e w' => e = .returned (.tuple #[.pointer none, .int .i64 1]) ∧ Below w.heap.size w w' := by
  have c := hid (fun W => may_3 p m x W)
  go_enter Tryz.func10, Tryz.ntmps10
  go_wp2_with (go_at_call 22; refine (c.out _).mono ?_; rintro e w1 ⟨rfl, rfl⟩)
  go_ret2
  exact ⟨rfl, ((Below.refl _ _).allocd _).allocd _⟩
theorem one_3 (b : Value) (p : Int) (m x : Bool) (w : World) : Calls Tryz.prog 14 #[b, .agg #[.int .i64 3, .int .i64 p, .bool m, .bool x]] w fun e w' => e = .returned (.tuple #[.slice none 0 0, .agg #[.int .i64 1, .int .i64 0]]) ∧ Below w.heap.size w w' := by
  have c := hid (fun W => may_3 p m x W)
  go_enter Tryz.func14, Tryz.ntmps14
  go_wp2_with (go_at_call 22; refine (c.out _).mono ?_; rintro e w1 ⟨rfl, rfl⟩)
  go_returns
  exact ⟨rfl, (((Below.refl _ _).allocd _).allocd _).allocd _⟩
theorem feed_nil (b : Value) (w : World) : Calls Tryz.prog 11 #[.pointer none, b] w fun e w' => e = .returned (.tuple #[.slice none 0 0, .slice none 0 0]) ∧ w = w' := by
  go_enter Tryz.func11, Tryz.ntmps11
  go_wp2
  go_ret2
  exact ⟨rfl, rfl⟩
theorem end_nil (w : World) : Calls Tryz.prog 12 #[.pointer none] w fun e w' => e = .returned (.tuple #[.slice none 0 0, .slice none 0 0]) ∧ w = w' := by
  go_enter Tryz.func12, Tryz.ntmps12
  go_wp2
  go_ret2
  exact ⟨rfl, rfl⟩
/-- A cutter and a converter, as they lie. -/
def cutO (v : Value) (at_ : Int) (e : Bool) : Obj := .cells #[v, .int .i64 at_, .bool e] 94
def conO (H : Nat) (f : Value) : Obj := .cells #[.pointer (some ⟨H, 0, none⟩), .int .i64 2, .int .i64 0, .bool false, .bool false, f] 65
theorem cut_New (w : World) : Calls Tryz.prog 23 #[] w fun e w' => e = .returned (.pointer (some ⟨w.heap.size, 0, none⟩)) ∧ w.alloc (cutO (.slice none 0 0) 0 false) = w' := by
  go_enter Tryz.func23, Tryz.ntmps23
  go_wp2
  go_ret
  exact ⟨rfl, rfl⟩
theorem way_2 (p : Int) (m x : Bool) (w : World) : Calls Tryz.prog 24 #[.agg #[.int .i64 2, .int .i64 p, .bool m, .bool x]] w fun e w' => e = .returned (.func (.func 38) #[] #[]) ∧ w.alloc (.cells #[.int .i64 2, .int .i64 p, .bool m, .bool x] 24) = w' := by
  go_enter Tryz.func24, Tryz.ntmps24
  go_wp2
  go_ret
  exact ⟨rfl, rfl⟩
theorem keep4 {w W : World} {b : Nat} {v0 v1 v2 v3 : Value} (hb : Below w.heap.size w W) (h : w.cell? ⟨b, 0, none⟩ = some v0 ∧ w.cell? ⟨b, 1, none⟩ = some v1 ∧ w.cell? ⟨b, 2, none⟩ = some v2 ∧ w.cell? ⟨b, 3, none⟩ = some v3) :
    W.cell? ⟨b, 0, none⟩ = some v0 ∧ W.cell? ⟨b, 1, none⟩ = some v1 ∧ W.cell? ⟨b, 2, none⟩ = some v2 ∧ W.cell? ⟨b, 3, none⟩ = some v3 := ⟨hb.got h.1, hb.got h.2.1, hb.got h.2.2.1, hb.got h.2.2.2⟩
theorem new_2 (w : World) : Calls Tryz.prog 10 #[.agg #[.int .i64 2, .int .i64 0, .bool false, .bool false]] w fun e w' => ∃ H C, e = .returned (.tuple #[.pointer (some ⟨C, 0, none⟩), .int .i64 0]) ∧ Below w.heap.size w w' ∧ w.heap.size ≤ H ∧ w.heap.size ≤ C ∧ H ≠ C ∧
    w'.heap[H]? = some (cutO (.slice none 0 0) 0 false) ∧ w'.heap[C]? = some (conO H (.func (.func 38) #[] #[])) := by
  have c := hid (fun W => may_2 0 false false W)
  have c1 := hid (fun W => (cut_New W).mono (R' := fun e w' => ∃ H, e = .returned (.pointer (some ⟨H, 0, none⟩)) ∧ Below W.heap.size W w' ∧ W.heap.size ≤ H ∧ w'.heap[H]? = some (cutO (.slice none 0 0) 0 false)) (by rintro e w' ⟨rfl, rfl⟩; exact ⟨_, rfl, (Below.refl _ _).allocd _, Nat.le_refl _, heap_alloc_new _ _⟩))
  have c2 := hid (fun W => (way_2 0 false false W).mono (R' := fun e w' => e = .returned (.func (.func 38) #[] #[]) ∧ Below W.heap.size W w') (by rintro e w' ⟨rfl, rfl⟩; exact ⟨rfl, (Below.refl _ _).allocd _⟩))
  go_enter Tryz.func10, Tryz.ntmps10
  go_wp2_with (go_at_call 22; refine (c.out _).mono ?_; rintro e w1 ⟨rfl, rfl⟩)
  have S0 : Below w.heap.size w ((w.alloc (.cells #[.int .i64 2, .int .i64 0, .bool false, .bool false] 24)).alloc (.cells #[.int .i64 2, .int .i64 0, .bool false, .bool false] 24)) := ((Below.refl _ _).allocd _).allocd _
  have hs0 : ((w.alloc (.cells #[.int .i64 2, .int .i64 0, .bool false, .bool false] 24)).alloc (.cells #[.int .i64 2, .int .i64 0, .bool false, .bool false] 24)).heap.size = w.heap.size + 2 := by simp
  obtain ⟨W0, hW0⟩ : ∃ W0, (w.alloc (.cells #[.int .i64 2, .int .i64 0, .bool false, .bool false] 24)).alloc (.cells #[.int .i64 2, .int .i64 0, .bool false, .bool false] 24) = W0 := ⟨_, rfl⟩
  have k0 : W0.cell? ⟨w.heap.size, 0, none⟩ = some (.int .i64 2) ∧ W0.cell? ⟨w.heap.size, 1, none⟩ = some (.int .i64 0) ∧ W0.cell? ⟨w.heap.size, 2, none⟩ = some (.bool false) ∧ W0.cell? ⟨w.heap.size, 3, none⟩ = some (.bool false) := by
    rw [← hW0]
    exact keep4 ((Below.refl _ _).allocd _) ⟨cell_new w _ _ 0 _ rfl, cell_new w _ _ 1 _ rfl, cell_new w _ _ 2 _ rfl, cell_new w _ _ 3 _ rfl⟩
  rw [hW0] at S0 hs0 ⊢
  go_region_held3 (fun W => W.cell? ⟨w.heap.size, 0, none⟩ = some (.int .i64 2) ∧ W.cell? ⟨w.heap.size, 1, none⟩ = some (.int .i64 0) ∧ W.cell? ⟨w.heap.size, 2, none⟩ = some (.bool false) ∧ W.cell? ⟨w.heap.size, 3, none⟩ = some (.bool false)) (first | exact k0 | exact k1 | exact k2 | exact k3 | exact keep4 ((Below.refl _ _).allocd _) k3)
    (first
      | (go_at_call 23; refine (c1.out _).mono ?_; rintro e w2 ⟨H, rfl, hb2, hH, gH⟩; first | (have k3 := keep4 hb2 k1) | (have k2 := keep4 ((Below.refl _ _).drawn 1 |>.next hb2) k0))
      | (go_at_call 24; refine (c2.out _).mono ?_; rintro e w3 ⟨rfl, hb3⟩; first | (have k3 := keep4 hb3 k2) | (have k1 := keep4 ((Below.refl _ _).drawn 1 |>.next hb3) k0)))
  all_goals
    go_wp2
    go_ret2
    have z0 := hb2.size
    have z1 := hb3.size
    have z2 := (Array.getElem?_eq_some_iff.1 gH).1
    simp only [World.size_drew] at z0 z1 hH
    first
      | (have b2 := S0.next (((Below.refl _ _).drawn 1).next hb2)
         refine ⟨H, w3.heap.size, rfl, (b2.next hb3).allocd _, by omega, by omega, by omega, ?_, heap_alloc_new _ _⟩
         rw [Below.heap_alloc _ _ _ (by omega)]
         exact (hb3.block H z2).trans gH)
      | (have b3 := S0.next (((Below.refl _ _).drawn 1).next hb3)
         refine ⟨H, w2.heap.size, rfl, (b3.next hb2).allocd _, by omega, by omega, by omega, ?_, heap_alloc_new _ _⟩
         rw [Below.heap_alloc _ _ _ z2]
         exact gH)
end Go.Proofs.YtoemaogfnimapabGreatDoor
