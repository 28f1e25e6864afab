/- StreamNone: the cutter's pieces of the bytes 120, 29: one, that is not good. -/
import Derived.Test.YtoemaogfnimapabGreatDoorNon2
set_option maxRecDepth 100000
set_option linter.unusedVariables false
set_option linter.unusedSimpArgs false
namespace Go.Proofs.YtoemaogfnimapabGreatDoor
open Go.RowKit
theorem CutAt.below {w w' : World} {H : Nat} {v : Value} {a : Int} (h : CutAt w H v a) (hb : Below w.heap.size w w') : CutAt w' H v a := ⟨(hb.block H h.lt).trans h.obj⟩
theorem three {w : World} {n : Nat} {a b c : Value} {t : TypeId} (h : w.heap[n]? = some (.cells #[a, b, c] t)) :
    (w.cell? ⟨n, 0, none⟩ = some a ∧ w.cell? ⟨n, 1, none⟩ = some b ∧ w.cell? ⟨n, 2, none⟩ = some c) ∧ w.frozen? ⟨n, 0, none⟩ = false ∧ w.frozen? ⟨n, 1, none⟩ = false ∧ w.frozen? ⟨n, 2, none⟩ = false :=
  ⟨⟨by rw [cell_of_row w n 0 _ _ _ h]; rfl, by rw [cell_of_row w n 1 _ _ _ h]; rfl, by rw [cell_of_row w n 2 _ _ _ h]; rfl⟩, by simp [World.frozen?, h], by simp [World.frozen?, h], by simp [World.frozen?, h]⟩
/-- What 'take', 'bad' and 'next' leave of a piece. -/
def Took (w : World) (H B : Nat) (e : Ending) (w' : World) : Prop := ∃ v, e = .returned (.tuple #[.agg #[.int .i64 0, .bool false, .slice (some ⟨B, 0, none⟩) 2 2], .bool true]) ∧ (∃ A c', v = .slice A 0 c') ∧ CutAt w' H v 2 ∧ w.grownBy w' (some H)
theorem set3 {w : World} {n : Nat} {a b c : Value} {t : TypeId} (x y z : Value) (h : w.heap[n]? = some (.cells #[a, b, c] t)) :
    (((w.setCell ⟨n, 0, none⟩ x).setCell ⟨n, 1, none⟩ y).setCell ⟨n, 2, none⟩ z).heap[n]? = some (.cells #[x, y, z] t) :=
  heap_setCell_same _ n 2 _ _ z (heap_setCell_same _ n 1 _ _ y (heap_setCell_same w n 0 _ _ x h))
theorem grown_trans {w w1 w2 : World} {row : Option Nat} (h : Below w.heap.size w w1) (g : w1.grownBy w2 row) : w.grownBy w2 row :=
  ⟨g.os.trans h.os, g.tape.trans h.tape, g.output.trans h.output, Nat.le_trans h.size g.size, fun k hk hne => (g.block k (Nat.lt_of_lt_of_le hk h.size) hne).trans (h.block k hk)⟩
theorem cut_bad (w : World) (H B c : Nat) (hw : CutAt w H (.slice (some ⟨B, 0, none⟩) 2 c) 0) (hc : 2 ≤ c) (hcm : c ≤ maxLen) (hB : B < w.heap.size)
    (hb : w.cell? ⟨B, 0, none⟩ = some (.int .u8 120)) (hb1 : w.cell? ⟨B, 1, none⟩ = some (.int .u8 29)) :
    Calls Tryz.prog 124 #[.pointer (some ⟨H, 0, none⟩)] w (Took w H B) := by
  have c0 := hw.c0
  have hH := hw.lt
  have q0 : Below w.heap.size w (w.alloc (.cells #[.int .i64 0, .bool false, .slice none 0 0] 95)) := (Below.refl _ _).allocd _
  have c1 := hid (bytes_IndexByte2 _ B c (q0.got hb) (q0.got hb1))
  have c2 := hid (cut_take _ H B c (hw.below q0) hc hcm (by simp; omega))
  go_enter Tryz.func124, Tryz.ntmps124
  go_wp2_with (first
    | (go_at_call 161; refine c1.out.mono ?_; rintro e w1 ⟨rfl, rfl⟩)
    | (go_at_call 125; refine c2.out.mono ?_; rintro e w2 ⟨v, rfl, ⟨A, c', rfl⟩, hk, hg⟩; have p6 := (hg.block w.heap.size (by simp) (by simp; omega)).trans (heap_alloc_new w _); have t3 := three p6; obtain ⟨⟨t30, t31, t32⟩, t33, t34, t35⟩ := t3))
  try simp only [Exit.inBlock, Exit.then]
  refine bodyPost_ret (res_cell_row_tmp rfl _ _ w.heap.size 95 _ _ _ rfl (set3 _ _ _ p6) Tryz.underlying95 rfl (by kernel_rfl)) rfl ?_
  have hn : w.heap.size ≠ H := by omega
  refine ⟨_, rfl, ⟨A, c', rfl⟩, ⟨?_⟩, ?_⟩
  · rw [heap_setCell_other _ _ _ _ (Ne.symm hn), heap_setCell_other _ _ _ _ (Ne.symm hn), heap_setCell_other _ _ _ _ (Ne.symm hn)]
    exact hk.obj
  · exact (((grown_trans q0 hg).setNew (Nat.le_refl _) _ _).setNew (Nat.le_refl _) _ _).setNew (Nat.le_refl _) _ _
theorem cut_next1 (w : World) (H B c : Nat) (hw : CutAt w H (.slice (some ⟨B, 0, none⟩) 2 c) 0) (hc : 2 ≤ c) (hcm : c ≤ maxLen) (hB : B < w.heap.size)
    (hb : w.cell? ⟨B, 0, none⟩ = some (.int .u8 120)) (hb1 : w.cell? ⟨B, 1, none⟩ = some (.int .u8 29)) :
    Calls Tryz.prog 73 #[.pointer (some ⟨H, 0, none⟩)] w (Took w H B) := by
  have hH := hw.lt
  have q0 : Below w.heap.size w (w.alloc (.cells #[.int .i64 0, .bool false, .slice none 0 0] 95)) := (Below.refl _ _).allocd _
  have hw1 := hw.below q0
  have c0 := hw1.c0
  have c1 := hid (cut_length _ H B c 0 hw1 (q0.got hb) hc)
  have c2 := hid (cut_bad _ H B c hw1 hc hcm (by simp; omega) (q0.got hb) (q0.got hb1))
  go_enter Tryz.func73, Tryz.ntmps73
  go_wp2_with (first
    | (go_at_call 123; refine c1.out.mono ?_; rintro e w1 ⟨rfl, rfl⟩)
    | (go_at_call 124; refine c2.out.mono ?_; rintro e w2 ⟨v, rfl, ⟨A, c', rfl⟩, hk, hg⟩; have p6 := (hg.block w.heap.size (by simp) (by simp; omega)).trans (heap_alloc_new w _); have t3 := three p6; obtain ⟨⟨t30, t31, t32⟩, t33, t34, t35⟩ := t3))
  try simp only [Exit.inBlock, Exit.then]
  refine bodyPost_ret (res_cell_row_tmp rfl _ _ w.heap.size 95 _ _ _ rfl (set3 _ _ _ p6) Tryz.underlying95 rfl (by kernel_rfl)) rfl ?_
  have hn : w.heap.size ≠ H := by omega
  refine ⟨_, rfl, ⟨A, c', rfl⟩, ⟨?_⟩, ?_⟩
  · rw [heap_setCell_other _ _ _ _ (Ne.symm hn), heap_setCell_other _ _ _ _ (Ne.symm hn), heap_setCell_other _ _ _ _ (Ne.symm hn)]
    exact hk.obj
  · exact (((grown_trans q0 hg).setNew (Nat.le_refl _) _ _).setNew (Nat.le_refl _) _ _).setNew (Nat.le_refl _) _ _
theorem cut_next2 (w : World) (H c : Nat) (A : Option Addr) (a : Int) (hw : CutAt w H (.slice A 0 c) a) :
    Calls Tryz.prog 73 #[.pointer (some ⟨H, 0, none⟩)] w fun e w' => e = .returned (.tuple #[.agg #[.int .i64 0, .bool false, .slice none 0 0], .bool false]) ∧ Below w.heap.size w w' := by
  have q0 : Below w.heap.size w (w.alloc (.cells #[.int .i64 0, .bool false, .slice none 0 0] 95)) := (Below.refl _ _).allocd _
  have hw1 := hw.below q0
  have c0 := hw1.c0
  go_enter Tryz.func73, Tryz.ntmps73
  go_wp2
  try simp only [Exit.inBlock, Exit.then]
  refine bodyPost_ret (res_cell_row_tmp rfl _ _ w.heap.size 95 _ _ _ rfl (heap_alloc_new w _) Tryz.underlying95 rfl (by kernel_rfl)) rfl ?_
  exact ⟨rfl, q0⟩
theorem elemPiece : Elem Tryz.prog 67 95 (.agg #[.int .i64 0, .bool false, .slice none 0 0]) 3 40 := ⟨Tryz.underlying67, by kernel_rfl, rfl, by omega⟩
/-- What 'all' and 'Feed' leave: one piece, that is not good. -/
def OnePiece (w : World) (base H B : Nat) (e : Ending) (w' : World) : Prop := ∃ v, e = .returned v ∧ w'.ownsRow base 95 3 v 1 [.int .i64 0, .bool false, .slice (some ⟨B, 0, none⟩) 2 2] ∧ w.grownBy w' (some H)
theorem grown_below' {w w1 w2 : World} {row : Option Nat} (g : w.grownBy w1 row) (h : Below w1.heap.size w1 w2) : w.grownBy w2 row :=
  ⟨h.os.trans g.os, h.tape.trans g.tape, h.output.trans g.output, Nat.le_trans g.size h.size, fun k hk hne => (h.block k (Nat.lt_of_lt_of_le hk g.size)).trans (g.block k hk hne)⟩
theorem Src.built1 (w : World) (cs : List Value) (e : TypeId) (H : Nat) (hH : w.heap.size = H) : Src (w.alloc (.cells cs.toArray e)) (.slice (some ⟨H, 0, none⟩) 1 1) 1 cs := by subst hH; exact Src.built w cs e 1 1 (by omega) (by simp [maxLen])
theorem pieceCells (B : Nat) : ∀ u ∈ [Value.int .i64 0, .bool false, .slice (some ⟨B, 0, none⟩) 2 2], u.oneCell' = true := by
  intro u hu
  simp only [List.mem_cons, List.mem_nil_iff, or_false] at hu
  rcases hu with rfl | rfl | rfl <;> rfl
set_option maxHeartbeats 1000000 in
theorem cut_all (w : World) (H B c : Nat) (hw : CutAt w H (.slice (some ⟨B, 0, none⟩) 2 c) 0) (hc : 2 ≤ c) (hcm : c ≤ maxLen) (hB : B < w.heap.size)
    (hb : w.cell? ⟨B, 0, none⟩ = some (.int .u8 120)) (hb1 : w.cell? ⟨B, 1, none⟩ = some (.int .u8 29)) :
    Calls Tryz.prog 40 #[.pointer (some ⟨H, 0, none⟩)] w (OnePiece w w.heap.size H B) := by
  have c1 := hid (cut_next1 w H B c hw hc hcm hB hb hb1)
  have c2 := hid cut_next2
  have hH := hw.lt
  go_enter Tryz.func40, Tryz.ntmps40
  go_wp2_with fail
  refine c1.out.mono ?_
  rintro e w1 ⟨v, rfl, ⟨A, c', rfl⟩, hk, hg⟩
  have hs1 := hg.size
  go_wp2_with fail
  refine wp_loop_rounds 2 ?_
  rw [rounds_succ]
  go_wp2_with (first | (at_builtin; go_must (refine app rfl _ _ 67 rfl elemPiece w.heap.size (.slice none 0 0) 0 [] rfl (World.ownsRow_nil _ _ _ _) 1 [.int .i64 0, .bool false, .slice (some ⟨B, 0, none⟩) 2 2] _ rfl (Src.built1 _ _ _ _ (by simp)) rfl (pieceCells B) (by simp [maxLen]) (by omega) (by simp; omega) ?_); intro v2 w2 hown2 hg2 hb2; have b2 := Below.of_grown (((Below.refl _ _).allocd _).allocd _) hg2 (by intro k hk; cases hk); have hk2 := hk.below b2; have p6 := (hg2.block w1.heap.size (by simp; omega) (by intro h; cases h)).trans ((Below.heap_alloc _ _ _ (by simp)).trans (heap_alloc_new w1 _)); obtain ⟨⟨t30, t31, t32⟩, t33, t34, t35⟩ := three p6) | (go_at_call 73; fail))
  have q2 : Below w2.heap.size w2 (w2.alloc (.cells #[.int .i64 0, .bool false, .slice (some ⟨B, 0, none⟩) 2 2] 95)) := (Below.refl _ _).allocd _
  refine (c2.out _ H c' A 2 (hk2.below q2)).mono ?_
  rintro e w3 ⟨rfl, hb3⟩
  have p7 := (hb3.block w2.heap.size (by simp)).trans (heap_alloc_new w2 _)
  obtain ⟨⟨s30, s31, s32⟩, s33, s34, s35⟩ := three p7
  go_wp2
  rw [rounds_succ]
  go_wp2
  go_ret
  have b3 := q2.next hb3
  have hz2 := b2.size
  have hz := q2.size
  refine ⟨v2, rfl, ?_, ?_⟩
  · have hown3 : w3.ownsRow w.heap.size 95 3 v2 1 [.int .i64 0, .bool false, .slice (some ⟨B, 0, none⟩) 2 2] := hown2.kept (row := none) ⟨b3.os, b3.tape, b3.output, b3.size, fun k hk _ => b3.block k hk⟩ (by cases v2.ownBlock <;> simp)
    exact hown3.kept (row := some w2.heap.size) ((((grown_below (Below.refl _ w3) _).setOwn _ _).setOwn _ _).setOwn _ _) (.inr fun h => by have := (hown2.lt _ h).2; omega)
  · exact (((grown_below' hg (b2.next b3)).setNew (by omega) _ _).setNew (by omega) _ _).setNew (by omega) _ _
theorem own_mono {w : World} {base base' : Nat} {e : TypeId} {size n : Nat} {v : Value} {cs : List Value} (h : w.ownsRow base e size v n cs) (hb : base' ≤ base) : w.ownsRow base' e size v n cs := by
  obtain ⟨h1, h2⟩ := h
  refine ⟨h1, ?_⟩
  rcases h2 with h2 | ⟨g, cap, cur, hv, hg, r⟩
  · exact .inl h2
  · exact .inr ⟨g, cap, cur, hv, by omega, r⟩
theorem grown_trans2 {w w1 w2 : World} {row : Option Nat} (h : w.grownBy w1 row) (g : w1.grownBy w2 row) : w.grownBy w2 row :=
  ⟨g.os.trans h.os, g.tape.trans h.tape, g.output.trans h.output, Nat.le_trans h.size g.size, fun k hk hne => (g.block k (Nat.lt_of_lt_of_le hk h.size) hne).trans (h.block k hk hne)⟩
theorem own_slice {w : World} {base : Nat} {e : TypeId} {size n : Nat} {v : Value} {cs : List Value} (h : w.ownsRow base e size v n cs) (hn : 0 < n) :
    ∃ g c, v = .slice (some ⟨g, 0, none⟩) n c ∧ base ≤ g ∧ g < w.heap.size ∧ n ≤ c ∧ c ≤ maxLen ∧ ∀ j u, cs[j]? = some u → w.cell? ⟨g, j, none⟩ = some u := by
  have hs := Src.own h
  obtain ⟨hl, h⟩ := h
  rcases h with ⟨rfl, rfl⟩ | ⟨g, cap, cur, rfl, hb, hg, h1, h2, h3, h4⟩
  · omega
  · rcases hs with ⟨h, _⟩ | ⟨b, o, c, h, g1, g2, g3, g4⟩
    · cases h
    · cases h
      exact ⟨g, cap, rfl, hb, g3, g1, g2, fun j u hj => by have := g4 j u hj; rwa [Nat.zero_add] at this⟩
set_option maxHeartbeats 1000000 in
theorem cut_Feed (w : World) (H B : Nat) (hw : CutAt w H (.slice none 0 0) 0) (hb : w.cell? ⟨B, 0, none⟩ = some (.int .u8 120)) (hb1 : w.cell? ⟨B, 1, none⟩ = some (.int .u8 29)) :
    Calls Tryz.prog 26 #[.pointer (some ⟨H, 0, none⟩), .slice (some ⟨B, 0, none⟩) 2 2] w fun e w' => ∃ B', OnePiece w w.heap.size H B' e w' := by
  have c0 := hw.c0
  have c2 := hw.c2
  have f0 := hw.fr 0
  have hH := hw.lt
  have hBz := World.block_lt_of_cell? w _ hb
  go_enter Tryz.func26, Tryz.ntmps26
  go_wp2_with (first | (at_builtin; go_must (refine appI rfl _ _ 22 rfl .u8 elemByte w.heap.size (.slice none 0 0) [] rfl (OwnI.nil _ _ _ _) _ [120, 29] rfl (.inr ⟨B, 0, 2, rfl, Nat.le_refl _, by simp [maxLen], hBz, fun j u hj => by rw [Nat.zero_add]; match j, hj with | 0, hj => cases hj; exact hb | 1, hj => cases hj; exact hb1⟩) (by omega) (by simp) (by simp) ?_); intro v2 w2 hown2 hg2 hb2; have b2 := Below.of_grown (Below.refl _ _) hg2 (by intro k hk; cases hk); obtain ⟨g, cap, rfl, hgb, hgz, hcap, hcm, hcells⟩ := own_slice hown2 (by simp); have hk2 := hw.below b2; have k0 := hk2.c0; have k1 := hk2.c1; have k2 := hk2.c2; have g0 := hk2.fr 0) | (go_at_call 40; fail))
  have W3 : CutAt (w2.setCell ⟨H, 0, none⟩ (.slice (some ⟨g, 0, none⟩) 2 cap)) H (.slice (some ⟨g, 0, none⟩) 2 cap) 0 := ⟨heap_setCell_same w2 H 0 _ _ _ hk2.obj⟩
  have hgH : g ≠ H := by omega
  have e0 : (w2.setCell ⟨H, 0, none⟩ (.slice (some ⟨g, 0, none⟩) 2 cap)).cell? ⟨g, 0, none⟩ = some (.int .u8 120) := by
    rw [World.cell?_of_block (w := w2) (heap_setCell_other _ _ _ _ hgH)]; exact hcells 0 _ rfl
  have e1 : (w2.setCell ⟨H, 0, none⟩ (.slice (some ⟨g, 0, none⟩) 2 cap)).cell? ⟨g, 1, none⟩ = some (.int .u8 29) := by
    rw [World.cell?_of_block (w := w2) (heap_setCell_other _ _ _ _ hgH)]; exact hcells 1 _ rfl
  refine (cut_all _ H g cap W3 hcap hcm (by simpa [World.setCell] using hgz) e0 e1).mono ?_
  rintro e w4 ⟨v, rfl, hown4, hg4⟩
  go_wp2
  go_ret
  have hz2 := b2.size
  exact ⟨g, v, rfl, own_mono hown4 (by simpa [World.setCell] using hz2), grown_trans2 ((grown_below b2 _).setOwn _ _) hg4⟩
end Go.Proofs.YtoemaogfnimapabGreatDoor
