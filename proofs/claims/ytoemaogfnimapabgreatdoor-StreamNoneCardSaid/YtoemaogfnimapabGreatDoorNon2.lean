/- StreamNone: the cutter at the bytes 120, 29. -/
import Derived.Test.YtoemaogfnimapabGreatDoorNon1
import Derived.Lib.Bytealg
import Derived.Lib.SliceRun
import Derived.Shelf.Bytes.SlIndexAt
set_option maxRecDepth 100000
set_option linter.unusedVariables false
set_option linter.unusedSimpArgs false
namespace Go.Proofs.YtoemaogfnimapabGreatDoor
open Go.RowKit
/-- A cutter in memory, whose bytes are b. -/
structure CutAt (w : World) (H : Nat) (v : Value) (a : Int) : Prop where
  obj : w.heap[H]? = some (cutO v a false)
theorem CutAt.c0 {w : World} {H : Nat} {v : Value} {a : Int} (h : CutAt w H v a) : w.cell? ⟨H, 0, none⟩ = some v := by rw [cell_of_row w H 0 _ _ _ h.obj]; rfl
theorem CutAt.c1 {w : World} {H : Nat} {v : Value} {a : Int} (h : CutAt w H v a) : w.cell? ⟨H, 1, none⟩ = some (.int .i64 a) := by rw [cell_of_row w H 1 _ _ _ h.obj]; rfl
theorem CutAt.c2 {w : World} {H : Nat} {v : Value} {a : Int} (h : CutAt w H v a) : w.cell? ⟨H, 2, none⟩ = some (.bool false) := by rw [cell_of_row w H 2 _ _ _ h.obj]; rfl
theorem CutAt.fr {w : World} {H : Nat} {v : Value} {a : Int} (h : CutAt w H v a) (i : Nat) : w.frozen? ⟨H, i, none⟩ = false := by simp [World.frozen?, h.obj, cutO]
theorem CutAt.lt {w : World} {H : Nat} {v : Value} {a : Int} (h : CutAt w H v a) : H < w.heap.size := (Array.getElem?_eq_some_iff.1 h.obj).1
theorem cut_length (w : World) (H B c : Nat) (a : Int) (h : CutAt w H (.slice (some ⟨B, 0, none⟩) 2 c) a) (hb : w.cell? ⟨B, 0, none⟩ = some (.int .u8 120)) (hc : 2 ≤ c) :
    Calls Tryz.prog 123 #[.pointer (some ⟨H, 0, none⟩)] w fun e w' => e = .returned (.tuple #[.int .i64 0, .bool true]) ∧ w = w' := by
  have c0 := h.c0
  go_enter Tryz.func123, Tryz.ntmps123
  go_wp2
  refine wp_loop_once ?_
  go_wp2
  go_ret2
  exact ⟨rfl, rfl⟩
theorem bytes_IndexByte2 (w : World) (B c : Nat) (hb : w.cell? ⟨B, 0, none⟩ = some (.int .u8 120)) (hb1 : w.cell? ⟨B, 1, none⟩ = some (.int .u8 29)) :
    Calls Tryz.prog 161 #[.slice (some ⟨B, 0, none⟩) 2 c, .int .u8 29] w fun e w' => e = .returned (.int .i64 1) ∧ w = w' := by
  have hx : (callFunc 245 #[.slice (some ⟨B, 0, none⟩) 2 c, .int .u8 29]).run Tryz.prog w = .ok (.value (.int .i64 1)) w := by
    rw [run_callFunc_extern Tryz.func245 (by kernel_rfl) (by kernel_rfl) (by kernel_rfl) (e := Extern.BytealgIndexByte.indexByte) (by kernel_rfl), Lib.run_indexByteAt w ⟨B, 0, none⟩ 2 c [120, 29] rfl (by
      intro i hi
      rw [add_at]
      match i, hi with
      | 0, _ => exact hb
      | 1, _ => exact hb1) 29]
    rfl
  go_enter Tryz.func161, Tryz.ntmps161
  go_wp2
  go_ret
  exact ⟨rfl, rfl⟩
/-- The library's Clone of bytes. -/
theorem bytes_CloneB (A : Addr) (n c : Nat) (xs : List Int) (w : World) (h : Ints .u8 w (.slice (some A) n c) xs) (hlen : xs.length ≤ 1000000000) :
    Calls Tryz.prog 88 #[.slice (some A) n c] w fun e w' => ∃ v', e = .returned v' ∧ OwnI .u8 5 w' w.heap.size v' xs ∧ Below w.heap.size w w' := by
  have hx0 := h
  have hn := fun w0 => Lib.run_eql_slice_nil (P := Tryz.prog) w0 22 5 (some A) n c 0 0 Tryz.underlying22
  clear h
  go_enter Tryz.func88, Tryz.ntmps88
  go_wp2_with (at_builtin; go_must (refine appI rfl _ _ 22 rfl .u8 elemByte w.heap.size (.slice (some ⟨w.heap.size, 0, none⟩) 0 0) [] rfl (OwnI.built .u8 5 w _ [] _ rfl (Nat.le_refl _) (by simp)) _ xs rfl (hx0.below ((Below.refl _ _).allocd _)) (by omega) (by simp; omega) (by simp) ?_); intro v2 w2 hown2 hg2 hb2)
  go_ret
  exact ⟨_, rfl, by simpa using hown2, Below.of_grown ((Below.refl _ _).allocd _) hg2 (by simp [Value.ownBlock])⟩
theorem cell_new1 (w : World) (o : Obj) (cs : List Value) (t : TypeId) (i : Nat) (v : Value) (h : cs[i]? = some v) : ((w.alloc o).alloc (.cells cs.toArray t)).cell? ⟨w.heap.size + 1, i, none⟩ = some v := by
  have := cell_new (w.alloc o) cs t i v h
  rwa [World.size_alloc] at this
theorem grown_below {w w' : World} (h : Below w.heap.size w w') (row : Option Nat) : w.grownBy w' row := ⟨h.os, h.tape, h.output, h.size, fun k hk _ => h.block k hk⟩
theorem _root_.Go.World.grownBy.setOwn {w w' : World} {b : Nat} (h : w.grownBy w' (some b)) (o : Nat) (u : Value) : w.grownBy (w'.setCell ⟨b, o, none⟩ u) (some b) :=
  ⟨h.os, h.tape, h.output, by simpa [World.setCell] using h.size, fun k hk hne => by
    rw [heap_setCell_other _ _ _ _ (fun e => hne (by rw [e]))]
    exact h.block k hk hne⟩
theorem _root_.Go.World.grownBy.setNew {w w' : World} {row : Option Nat} (h : w.grownBy w' row) {b : Nat} (hb : w.heap.size ≤ b) (o : Nat) (u : Value) : w.grownBy (w'.setCell ⟨b, o, none⟩ u) row :=
  ⟨h.os, h.tape, h.output, by simpa [World.setCell] using h.size, fun k hk hne => by
    rw [heap_setCell_other _ _ _ _ (fun e => by simp at e; omega)]
    exact h.block k hk hne⟩
theorem res_cell_row_tmp {P : Program} {fn : Func} {p u : Tmp} {ty : TypeId} (h : fn.results = #[.cell p ty, .tmp u]) (tmps : Array Value) (w : World) (g : Nat) (t : TypeId) (cs : Array Value) (fr : Nat × Nat) (d : TypeDesc)
    (hp : tmps.getD p undef = .pointer (some ⟨g, 0, none⟩)) (hg : w.heap[g]? = some (.cells cs t fr))
    (hu : P.underlying ty = some d) (hd : (match d with | .struct _ | .array _ _ => true | _ => false) = true) (hi : (P.info? ty).map (·.size) = some cs.size) :
    (results fn tmps).run P w = .ok (.tuple #[.agg cs, tmps.getD u undef]) w := by
  rw [results_cell_tmp h]
  have hp' : tmps[p]?.getD undef = .pointer (some ⟨g, 0, none⟩) := by simpa using hp
  simp [hp', asAddr, run_loadVar_row w g t ty cs fr d hg hu hd hi, Result.andThen]
set_option maxHeartbeats 1000000 in
theorem cut_take (w : World) (H B c : Nat) (hw : CutAt w H (.slice (some ⟨B, 0, none⟩) 2 c) 0) (hc : 2 ≤ c) (hcm : c ≤ maxLen) (hB : B < w.heap.size) :
    Calls Tryz.prog 125 #[.pointer (some ⟨H, 0, none⟩), .int .i64 2, .bool false] w fun e w' => ∃ v, e = .returned (.tuple #[.agg #[.int .i64 0, .bool false, .slice (some ⟨B, 0, none⟩) 2 2], .bool true]) ∧ (∃ A c', v = .slice A 0 c') ∧ CutAt w' H v 2 ∧ w.grownBy w' (some H) := by
  have h := hw
  have c0 := h.c0
  have c1 := h.c1
  have c2 := h.c2
  have f0 := h.fr 0
  have f1 := h.fr 1
  have hH := h.lt
  have e1 : ∀ o1 o2, ((w.alloc o1).alloc o2).cell? ⟨H, 0, none⟩ = some (.slice (some ⟨B, 0, none⟩) 2 c) := fun o1 o2 => (((Below.refl _ _).allocd _).allocd _).got c0
  have e2 : ∀ o1 o2, ((w.alloc o1).alloc o2).frozen? ⟨H, 0, none⟩ = false := fun o1 o2 => by simp [World.frozen?, (((Below.refl w.heap.size w).allocd o1).allocd o2).block _ hH, h.obj, cutO]
  have h := hid h
  go_enter Tryz.func125, Tryz.ntmps125
  go_wp2
  go_region
  go_wp2_with fail
  all_goals
    refine (bytes_CloneB _ _ _ [] _ (by first | exact .inr ⟨_, _, _, rfl, Nat.zero_le _, by omega, by simp; omega, fun j u hj => by simp at hj⟩) (by simp)).mono ?_
    rintro e w1 ⟨v, rfl, hown, hb⟩
    obtain ⟨A, c', rfl⟩ := hown.ints.shape
    have hb0 := ((((Below.refl w.heap.size w).allocd (.cells #[.int .i64 0, .bool false, .slice none 0 0] 95)).allocd (.cells #[.int .i64 0, .bool false, .slice (some ⟨B, 0, none⟩) 2 2] 95)).drawn 1)
    have k1 : CutAt w1 H (.slice (some ⟨B, 0, none⟩) 2 c) 0 := ⟨(hb.block H (by simp; omega)).trans ((hb0.block H hH).trans hw.obj)⟩
    have hne1 : w.heap.size + 1 ≠ H := by omega
    have hne0 : w.heap.size ≠ H := by omega
    have d1 := k1.c1
    have d0 := k1.c0
    have d2 := k1.c2
    have q0 := k1.fr 0
    have q1 := k1.fr 1
    have p0 : w1.cell? ⟨w.heap.size + 1, 0, none⟩ = some (.int .i64 0) := hb.got (((Below.refl _ _).drawn 1).got (cell_new1 w _ _ _ 0 _ rfl))
    have p1 : w1.cell? ⟨w.heap.size + 1, 1, none⟩ = some (.bool false) := hb.got (((Below.refl _ _).drawn 1).got (cell_new1 w _ _ _ 1 _ rfl))
    have p2 : w1.cell? ⟨w.heap.size + 1, 2, none⟩ = some (.slice (some ⟨B, 0, none⟩) 2 2) := hb.got (((Below.refl _ _).drawn 1).got (cell_new1 w _ _ _ 2 _ rfl))
    have p6 : w1.heap[w.heap.size]? = some (.cells #[.int .i64 0, .bool false, .slice none 0 0] 95) := (hb.block _ (by simp; omega)).trans (by
      show ((w.alloc _).alloc _).heap[w.heap.size]? = _
      rw [Below.heap_alloc _ _ _ (by simp)]
      exact heap_alloc_new w _)
    have r0 : w1.cell? ⟨w.heap.size, 0, none⟩ = some (.int .i64 0) := by rw [cell_of_row w1 _ 0 _ _ _ p6]; rfl
    have r1 : w1.cell? ⟨w.heap.size, 1, none⟩ = some (.bool false) := by rw [cell_of_row w1 _ 1 _ _ _ p6]; rfl
    have r2 : w1.cell? ⟨w.heap.size, 2, none⟩ = some (.slice none 0 0) := by rw [cell_of_row w1 _ 2 _ _ _ p6]; rfl
    have p7 : w1.frozen? ⟨w.heap.size, 0, none⟩ = false := by simp [World.frozen?, p6]
    have p8 : w1.frozen? ⟨w.heap.size, 1, none⟩ = false := by simp [World.frozen?, p6]
    have p9 : w1.frozen? ⟨w.heap.size, 2, none⟩ = false := by simp [World.frozen?, p6]
    go_wp2
    have hn : w.heap.size ≠ H := hne0
    have a1 := heap_setCell_same w1 H 0 _ _ (.slice A 0 c') k1.obj
    have a2 := heap_setCell_same _ H 1 _ _ (.int .i64 2) a1
    have a3 : ((w1.setCell ⟨H, 0, none⟩ (.slice A 0 c')).setCell ⟨H, 1, none⟩ (.int .i64 2)).heap[w.heap.size]? = some (.cells #[.int .i64 0, .bool false, .slice none 0 0] 95) := by
      rw [heap_setCell_other _ _ _ _ hn, heap_setCell_other _ _ _ _ hn]; exact p6
    have a4 := heap_setCell_same _ w.heap.size 0 _ _ (.int .i64 0) a3
    have a5 := heap_setCell_same _ w.heap.size 1 _ _ (.bool false) a4
    have a6 := heap_setCell_same _ w.heap.size 2 _ _ (.slice (some ⟨B, 0, none⟩) 2 2) a5
    try simp only [Exit.inBlock, Exit.then]
    refine bodyPost_ret (res_cell_row_tmp rfl _ _ w.heap.size 95 _ _ _ rfl a6 Tryz.underlying95 rfl (by kernel_rfl)) rfl ?_
    refine ⟨_, rfl, ⟨A, c', rfl⟩, ⟨?_⟩, ?_⟩
    · rw [heap_setCell_other _ _ _ _ (Ne.symm hn), heap_setCell_other _ _ _ _ (Ne.symm hn), heap_setCell_other _ _ _ _ (Ne.symm hn)]
      exact a2
    · have hbw : Below w.heap.size w w1 := hb0.next hb
      exact (((((grown_below hbw (some H)).setOwn _ _).setOwn _ _).setNew (Nat.le_refl _) _ _).setNew (Nat.le_refl _) _ _).setNew (Nat.le_refl _) _ _
end Go.Proofs.YtoemaogfnimapabGreatDoor
