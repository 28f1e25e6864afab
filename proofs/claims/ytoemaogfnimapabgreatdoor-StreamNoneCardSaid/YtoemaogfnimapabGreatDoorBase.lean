/- Small lemmas that all later texts use: closed runs by the kernel, facts carried along worlds, rows of cells. -/
import Derived.Test.YtoemaogfnimapabGreatDoorProg
import Derived.WalkKit
import Derived.WalkLawsBesides
import Derived.WalkSpells
import Derived.LoopTactic
import Derived.Outline
import Derived.KernelRfl
import Derived.Deep.DeepMust
import Derived.Deep.DeepFit
import Derived.Deep.LoopGhost
import Derived.Deep.QuietTactic
import Derived.BigQuiet
set_option maxRecDepth 100000
set_option linter.unusedVariables false
set_option linter.unusedSimpArgs false
namespace Go.RowKit
theorem Below.got {w W : World} {a : Addr} {v : Value} (hb : Below w.heap.size w W) (h : w.cell? a = some v) : W.cell? a = some v :=
  (hb.cell (World.block_lt_of_cell? w a h)).trans h
theorem Below.next {w w1 w2 : World} (h : Below w.heap.size w w1) (k : Below w1.heap.size w1 w2) : Below w.heap.size w w2 :=
  h.trans (k.mono h.size)
theorem Below.allocd {w w1 : World} (h : Below w.heap.size w w1) (o : Obj) : Below w.heap.size w (w1.alloc o) := h.alloc h.size o
theorem Below.drawn {B : Nat} {w w1 : World} (h : Below B w w1) (n : Nat) : Below B w (w1.drewN n) := ⟨h.os, h.tape, h.output, h.size, h.block⟩

end Go.RowKit
namespace Go.Proofs.YtoemaogfnimapabGreatDoor
open Go.RowKit

/-- The frame in which a run of n steps ends. -/
def ranFrame (P : Program) (n : Nat) (f : FuncId) (args : Array Value) (w : World) (cs : List Frame) : Frame :=
  match runN P n (lone (Frame.enter P f args .normal) cs w) with
  | .next m => (m.gs.getD 0 { (default : Goroutine) with status := .finished }).frame
  | _ => default
theorem calls_of_run {P : Program} {f : FuncId} {args : Array Value} {w w' : World} {R : Ending → World → Prop} {v : Value} (n : Nat) (fn : Func) (hf : P.funcs[f]? = some fn)
    (hrun : ∀ cs, runN P n (lone (Frame.enter P f args .normal) cs w) = .next (lone (ranFrame P n f args w cs) cs w'))
    (h1 : ∀ cs, (ranFrame P n f args w cs).fn = f) (h2 : ∀ cs, (ranFrame P n f args w cs).mode = .returning) (h3 : ∀ cs, (ranFrame P n f args w cs).defers = [])
    (h4 : ∀ cs, (ranFrame P n f args w cs).kind = .normal) (h5 : ∀ cs, (results fn (ranFrame P n f args w cs).tmps).run P w' = .ok v w') (hR : R (.returned v) w') : Calls P f args w R :=
  fun cs => ⟨.returned v, w', ranFrame P n f args w cs, hR, ⟨n, hrun cs⟩, h1 cs, h2 cs, h3 cs, h4 cs, fn, by rw [h1 cs]; exact hf, h5 cs⟩

/-- A fact of the context that the walk does not use as a rule. -/
theorem hid {p : Prop} (h : p) : Hid p := h

theorem ret_int {k : IntKind} {a b : Int} (h : a = b) : Ending.returned (.int k a) = .returned (.int k b) := by rw [h]
theorem ret_bool {a b : Bool} (h : a = b) : Ending.returned (.bool a) = .returned (.bool b) := by rw [h]

/-- A list of rows of one length, one behind the other. -/
theorem flat_get {α : Type} (n : Nat) : ∀ (rows : List (List α)) (_ : ∀ r ∈ rows, r.length = n) (i j : Nat) (_ : i < rows.length) (_ : j < n), rows.flatten[i * n + j]? = (rows.getD i [])[j]?
  | [], _, i, _, hi, _ => by simp at hi
  | r :: rows, h, 0, j, _, hj => by
    have hr := h r (List.mem_cons_self ..)
    simp only [List.flatten_cons, Nat.zero_mul, Nat.zero_add, List.getD_cons_zero]
    rw [List.getElem?_append_left (by omega)]
  | r :: rows, h, i + 1, j, hi, hj => by
    have hr := h r (List.mem_cons_self ..)
    have e : (i + 1) * n + j = r.length + (i * n + j) := by rw [hr, Nat.succ_mul]; omega
    simp only [List.flatten_cons, List.getD_cons_succ, e]
    rw [List.getElem?_append_right (by omega), Nat.add_sub_cancel_left]
    exact flat_get n rows (fun r' h' => h r' (List.mem_cons_of_mem _ h')) i j (by simpa using hi) hj
theorem cell_new (w : World) (cs : List Value) (t : TypeId) (j : Nat) (v : Value) (h : cs[j]? = some v) (fz : Nat × Nat := (0, 0)) : (w.alloc (.cells cs.toArray t fz)).cell? ⟨w.heap.size, j, none⟩ = some v := by
  rw [cell_of_row (w.alloc (.cells cs.toArray t fz)) w.heap.size j cs.toArray t fz (heap_alloc_new w _)]
  simpa using h
end Go.Proofs.YtoemaogfnimapabGreatDoor
