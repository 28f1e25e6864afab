/- StreamNone: for every input the call returns true, and its arguments read as they read before: the law's row without its closed facts. -/
import Derived.Test.YtoemaogfnimapabGreatDoorNon4
import Derived.Test.YtoemaogfnimapabGreatDoorRows
import Derived.WalkKit
import Derived.ProofKit
import Derived.OpenShut
import Derived.Carry
import Derived.Lib.SmallJoins
import Derived.Deep.DeepHandedRow
set_option maxRecDepth 100000
set_option linter.unusedVariables false
set_option linter.unusedSimpArgs false
namespace Go.Proofs.YtoemaogfnimapabGreatDoor
open Go.ChangeShapes Go.WideShapes Go.ChangeAt Go.WideMaps Go.WideElems Go.RowKit
theorem laidOutP : laidOutB Tryz.prog = true := by kernel_rfl
theorem bytes_again {H : Type} {enc : TypeId × Value → H} {W W' : World} {v : Value} {d : DataW H} {ps : List MemPlace}
    (h : DataW.Trod enc Tryz.prog W 0 (fun _ => true) true 22 v d ps) (hb : Below W.heap.size W W') (hlt : ∀ x ∈ ps, x.block < W.heap.size) : DataW.Trod enc Tryz.prog W' 0 (fun b => decide (b < W.heap.size)) true 22 v d ps :=
  Below.trod laidOutP (by kernel_rfl) (of_decide_eq_true (by kernel_rfl)) h hb hlt
theorem opts_again {H : Type} {enc : TypeId × Value → H} {W W' : World} {v : Value} {d : DataW H} {ps : List MemPlace}
    (h : DataW.Trod enc Tryz.prog W 0 (fun _ => true) true 24 v d ps) (hb : Below W.heap.size W W') (hlt : ∀ x ∈ ps, x.block < W.heap.size) : DataW.Trod enc Tryz.prog W' 0 (fun b => decide (b < W.heap.size)) true 24 v d ps :=
  Below.trod laidOutP (by kernel_rfl) (of_decide_eq_true (by kernel_rfl)) h hb hlt
theorem contract (H : Type) (enc : TypeId × Value → H) (W : World) (args : Array Value) (ds gs : List (DataW H)) (before : List MemPlace)
    (base : Nat) (hval : ∀ (j : Nat) t v, Tryz.f4.params[j]? = some t → args[j]? = some v → Value.okWide Tryz.prog W .any base t v)
    (hW : DataW.Whole enc Tryz.prog Tryz.f4.params.toList Rows.streamNoneSpec.vars false W args.toList ds gs before) :
    Calls Tryz.prog 4 args W fun e W' => ∃ v, e = .returned v ∧ Rows.streamNoneSpec.post enc Tryz.prog Tryz.f4 false true false false W args v W' := by
  have hW' := hW
  obtain ⟨p, q, hA0, hV, rfl, hfz, hnd⟩ := hW
  have hA : DataW.TrodAll enc Tryz.prog W 0 (fun _ => true) true Tryz.f4.params.toList args.toList ds p := hA0
  rw [Tryz.params4] at hA hval
  obtain ⟨v0, vs0, d0, ds0, p0, q0, hargs, rfl, rfl, h0, r0⟩ := trodAll_cons hA
  obtain ⟨v1, vs1, d1, ds1, p1, q1, rfl, rfl, rfl, h1, r1⟩ := trodAll_cons r0
  obtain ⟨rfl, rfl, rfl⟩ := trodAll_nil r1
  obtain rfl : args = #[v0, v1] := by cases args; simp_all
  obtain ⟨rfl, rfl⟩ := trodVars_none hV
  have h1k := h1
  obtain ⟨c0, c1, c2, c3, y0, y1, y2, y3, n, rfl, rfl, rfl, k0, k1, k2, k3⟩ := Joins.open_agg4 Tryz.underlying24 (by kernel_rfl) (by kernel_rfl) (hval 1 24 v1 rfl rfl) h1
  obtain ⟨z0, e0, _, _⟩ := DataW.trod_int Tryz.underlying3 k0
  obtain ⟨z1, e1, _, _⟩ := DataW.trod_int Tryz.underlying3 k1
  obtain ⟨z2, e2, _⟩ := DataW.trod_bool Tryz.underlying4 k2
  obtain ⟨z3, e3, _⟩ := DataW.trod_bool Tryz.underlying4 k3
  cases e0; cases e1; cases e2; cases e3
  refine (streamNone_walk v0 z0 z1 z2 z3 W).mono ?_
  rintro e W' ⟨rfl, hb⟩
  have hlt : ∀ x ∈ p0 ++ (y0.2 ++ (y1.2 ++ (y2.2 ++ y3.2)) ++ []), x.block < W.heap.size := fun x hx => by
    have := hW'.lt x (by simpa using hx)
    simpa using this
  refine ⟨_, rfl, _, [], _, [], p0 ++ ((y0.2 ++ (y1.2 ++ (y2.2 ++ y3.2))) ++ []), [], hW', ?_, ?_, ?_, hb.frame _, fun h => by cases h⟩
  · exact trodAll_mk1 (shut_bool Tryz.underlying4 true)
  · exact trodAll_cons_mk (bytes_again h0 hb (fun x hx => hlt x (List.mem_append_left _ hx))) (trodAll_cons_mk (opts_again h1k hb (fun x hx => hlt x (List.mem_append_right _ (List.mem_append_left _ hx)))) trodAll_mk0)
  · rfl
end Go.Proofs.YtoemaogfnimapabGreatDoor
