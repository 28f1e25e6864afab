/- StreamNone: what a converter makes of one piece that is not good; answers. -/
import Derived.Test.YtoemaogfnimapabGreatDoorNon3
import Derived.Lib.SlBytesConst
set_option maxRecDepth 100000
set_option linter.unusedVariables false
set_option linter.unusedSimpArgs false
namespace Go.Proofs.YtoemaogfnimapabGreatDoor
open Go.RowKit
theorem elemNote : Elem Tryz.prog 30 43 (.agg #[.int .i64 0, .int .i64 0, .int .i64 0]) 3 24 := ⟨Tryz.underlying30, by kernel_rfl, rfl, by omega⟩
theorem noteCells : ∀ u ∈ [Value.int .i64 0, .int .i64 13, .int .i64 0], u.oneCell' = true := by
  intro u hu
  simp only [List.mem_cons, List.mem_nil_iff, or_false] at hu
  rcases hu with rfl | rfl | rfl <;> rfl
theorem con_cells {w : World} {C H : Nat} {f : Value} (h : w.heap[C]? = some (conO H f)) : w.cell? ⟨C, 0, none⟩ = some (.pointer (some ⟨H, 0, none⟩)) ∧ w.cell? ⟨C, 3, none⟩ = some (.bool false) ∧ w.cell? ⟨C, 4, none⟩ = some (.bool false) :=
  ⟨by rw [cell_of_row w C 0 _ _ _ h]; rfl, by rw [cell_of_row w C 3 _ _ _ h]; rfl, by rw [cell_of_row w C 4 _ _ _ h]; rfl⟩
set_option maxHeartbeats 1000000 in
theorem str_pieces (w : World) (C H B : Nat) (f : Value) (b0 : Nat) (v : Value) (hC : w.heap[C]? = some (conO H f)) (hown : w.ownsRow b0 95 3 v 1 [.int .i64 0, .bool false, .slice (some ⟨B, 0, none⟩) 2 2]) :
    Calls Tryz.prog 25 #[.pointer (some ⟨C, 0, none⟩), v] w fun e w' => ∃ b' v', e = .returned (.tuple #[b', v']) ∧ w'.ownsRow w.heap.size 43 3 v' 1 [.int .i64 0, .int .i64 13, .int .i64 0] ∧ Below w.heap.size w w' := by
  obtain ⟨g, c, rfl, hg0, hgz, hc, hcm, hcells⟩ := own_slice hown (by omega)
  have p0 := hcells 0 _ rfl
  have p1 := hcells 1 _ rfl
  have p2 := hcells 2 _ rfl
  obtain ⟨k0, k3, k4⟩ := con_cells hC
  have hCl := World.block_lt_of_cell? w _ k0
  simp only [] at hCl
  clear hcells hown
  go_enter Tryz.func25, Tryz.ntmps25
  go_wp2
  refine wp_loop_rounds 2 ?_
  rw [rounds_succ]
  go_wp2_with (first | (at_builtin; refine app rfl _ _ 30 rfl elemNote w.heap.size (.slice none 0 0) 0 [] rfl (World.ownsRow_nil _ _ _ _) 1 [.int .i64 0, .int .i64 13, .int .i64 0] _ rfl (Src.built1 _ _ _ _ (by simp)) rfl noteCells (by simp [maxLen]) (by omega) (by simp; omega) ?_; intro v2 w2 hown2 hg2 hb2) | (at_builtin; refine appI rfl _ _ 22 rfl .u8 elemByte 0 (.slice none 0 0) [] rfl (OwnI.nil _ _ _ _) _ [] rfl (Ints.nil _ _) (by omega) (by simp) (by omega) ?_; intro v3 w3 hown3 hg3 hb3))
  rw [rounds_succ]
  go_wp2
  go_ret2
  have b2 := Below.of_grown ((((Below.refl w.heap.size w).allocd _).allocd _).allocd _) hg2 (by intro k hk; cases hk)
  have b3 := Below.of_grown b2 hg3 (by intro k hk; cases hk)
  exact ⟨v3, v2, rfl, by simpa using hown2.kept hg3 (by cases h : v2.ownBlock <;> simp [Value.ownBlock]), b3⟩
theorem con_Feed (w : World) (C H B : Nat) (f : Value) (hC : w.heap[C]? = some (conO H f)) (hne : H ≠ C) (hw : CutAt w H (.slice none 0 0) 0) (hb : w.cell? ⟨B, 0, none⟩ = some (.int .u8 120)) (hb1 : w.cell? ⟨B, 1, none⟩ = some (.int .u8 29)) :
    Calls Tryz.prog 11 #[.pointer (some ⟨C, 0, none⟩), .slice (some ⟨B, 0, none⟩) 2 2] w fun e w' => ∃ b' v', e = .returned (.tuple #[b', v']) ∧ w'.ownsRow 0 43 3 v' 1 [.int .i64 0, .int .i64 13, .int .i64 0] ∧ w.grownBy w' (some H) := by
  obtain ⟨k0, k3, k4⟩ := con_cells hC
  have hCl := World.block_lt_of_cell? w _ k0
  have c1 := hid (cut_Feed w H B hw hb hb1)
  have HC := hid hC
  clear hC
  go_enter Tryz.func11, Tryz.ntmps11
  go_wp2_with fail
  refine c1.out.mono ?_
  rintro e w1 ⟨B', v, rfl, hown1, hg1⟩
  have hC1 := (hg1.block C hCl (by simp; omega)).trans HC.out
  go_wp2_with fail
  refine (str_pieces w1 C H B' f _ v hC1 hown1).mono ?_
  rintro e w2 ⟨b', v', rfl, hown2, hb2⟩
  go_wp2
  go_ret2
  exact ⟨b', v', rfl, own_mono hown2 (Nat.zero_le _), grown_below' hg1 hb2⟩
set_option maxHeartbeats 1000000 in
theorem law28_answers (w : World) : Calls Tryz.prog 9 #[] w fun e w' => e = .returned (.bool true) ∧ Below w.heap.size w w' := by
  have hcv := fun W => Lib.run_convert_bytes_const (P := Tryz.prog) W 22 5 #[.int .u8 120, .int .u8 29] 2 2 Tryz.underlying22 (by kernel_rfl)
  go_enter Tryz.func9, Tryz.ntmps9
  go_wp2_with fail
  refine (new_2 w).mono ?_
  rintro e w1 ⟨H, C, rfl, hb1, hH, hC, hne, oH, oC⟩
  go_wp2_with fail
  have q := (Below.refl w1.heap.size w1).allocd (.cells #[.int .u8 120, .int .u8 29] 5 (2, 3))
  have zC := (Array.getElem?_eq_some_iff.1 oC).1
  have zH := (Array.getElem?_eq_some_iff.1 oH).1
  refine (con_Feed _ C H w1.heap.size _ ((q.block C zC).trans oC) hne ⟨(q.block H zH).trans oH⟩ (cell_new w1 [.int .u8 120, .int .u8 29] 5 0 _ rfl (2, 3)) (cell_new w1 [.int .u8 120, .int .u8 29] 5 1 _ rfl (2, 3))).mono ?_
  rintro e w2 ⟨b', v', rfl, hown2, hg2⟩
  obtain ⟨g, c, rfl, hg0, hgz, hc, hcm, hcells⟩ := own_slice hown2 (by omega)
  have p1 := hcells 1 _ rfl
  clear hcells
  go_wp2
  go_ret
  exact ⟨rfl, Below.of_grown (hb1.next q) hg2 (by intro k hk; cases hk; exact hH)⟩
set_option maxHeartbeats 1000000 in
/-- The walk of the law. -/
theorem streamNone_walk (b : Value) (t p : Int) (m x : Bool) (w : World) : Calls Tryz.prog 4 #[b, .agg #[.int .i64 t, .int .i64 p, .bool m, .bool x]] w fun e w' => e = .returned (.bool true) ∧ Below w.heap.size w w' := by
  go_enter Tryz.func4, Tryz.ntmps4
  go_wp2_with fail
  refine (feed_nil b _).mono ?_
  rintro e w1 ⟨rfl, rfl⟩
  go_wp2_with fail
  refine (end_nil _).mono ?_
  rintro e w1 ⟨rfl, rfl⟩
  go_wp2_with fail
  refine (new_3 p m x _).mono ?_
  rintro e w1 ⟨rfl, hb1⟩
  have k0 := hb1.got (cell_new w [.int .i64 3, .int .i64 p, .bool m, .bool x] 24 0 _ rfl)
  have k1 := hb1.got (cell_new w [.int .i64 3, .int .i64 p, .bool m, .bool x] 24 1 _ rfl)
  have k2 := hb1.got (cell_new w [.int .i64 3, .int .i64 p, .bool m, .bool x] 24 2 _ rfl)
  have k3 := hb1.got (cell_new w [.int .i64 3, .int .i64 p, .bool m, .bool x] 24 3 _ rfl)
  go_wp2_with fail
  refine (one_3 b p m x _).mono ?_
  rintro e w2 ⟨rfl, hb2⟩
  go_wp2_with fail
  have q3 := (Below.refl w2.heap.size w2).allocd (.cells #[.int .i64 1, .int .i64 0] 37)
  refine (law28_answers _).mono ?_
  rintro e w3 ⟨rfl, hb3⟩
  have k4 := hb3.got (cell_new w2 [.int .i64 1, .int .i64 0] 37 0 _ rfl)
  have k5 := hb3.got (cell_new w2 [.int .i64 1, .int .i64 0] 37 1 _ rfl)
  go_wp2
  go_ret
  exact ⟨rfl, (((((Below.refl _ _).allocd _).next hb1).next hb2).next q3).next hb3⟩
end Go.Proofs.YtoemaogfnimapabGreatDoor
