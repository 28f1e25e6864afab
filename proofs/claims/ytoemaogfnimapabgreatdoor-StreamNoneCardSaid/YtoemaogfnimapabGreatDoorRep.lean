/- Slices that are read, rows that are owned and appended to: the words in which all contracts speak of memory. -/
import Derived.Test.YtoemaogfnimapabGreatDoorBase
import Derived.Maps.AppendAt
import Derived.Laws.AppendOwnNone
set_option maxRecDepth 100000
set_option linter.unusedVariables false
set_option linter.unusedSimpArgs false
namespace Go.Proofs.YtoemaogfnimapabGreatDoor
open Go.RowKit

theorem add_at (b o j : Nat) : (⟨b, o, none⟩ : Addr).add j = ⟨b, o + j, none⟩ := by unfold Addr.add; split <;> simp_all

/-- An element type: its slice type t, itself e, its zero value, its cells, its bytes. -/
def Elem (P : Program) (t e : TypeId) (z : Value) (size bytes : Nat) : Prop :=
  P.underlying t = some (.slice e) ∧ (P.info? e).map (fun i => (i.zero, i.size, i.bytes)) = some (some z, size, bytes) ∧ z.cells.size = size ∧ 0 < size

/-- A slice that can be read: n elements, their cells cs. -/
def Src (w : World) (v : Value) (n : Nat) (cs : List Value) : Prop :=
  (v = .slice none 0 0 ∧ n = 0 ∧ cs = []) ∨
  ∃ b o c, v = .slice (some ⟨b, o, none⟩) n c ∧ n ≤ c ∧ c ≤ maxLen ∧ b < w.heap.size ∧ ∀ j u, cs[j]? = some u → w.cell? ⟨b, o + j, none⟩ = some u

theorem Src.nil (w : World) : Src w (.slice none 0 0) 0 [] := .inl ⟨rfl, rfl, rfl⟩
theorem Src.kept {w w' : World} {v : Value} {n : Nat} {cs : List Value} (h : Src w v n cs) (hk : ∀ b, v.ownBlock = some b → b < w.heap.size → w'.heap[b]? = w.heap[b]?) (hs : w.heap.size ≤ w'.heap.size) : Src w' v n cs := by
  rcases h with h | ⟨b, o, c, rfl, h1, h2, h3, h4⟩
  · exact .inl h
  · refine .inr ⟨b, o, c, rfl, h1, h2, by omega, fun j u hj => ?_⟩
    rw [World.cell?_of_block (w := w) (hk b rfl h3)]
    exact h4 j u hj
theorem Src.below {w w' : World} {v : Value} {n : Nat} {cs : List Value} (h : Src w v n cs) (hb : Below w.heap.size w w') : Src w' v n cs := h.kept (fun b _ hl => hb.block b hl) hb.size
theorem Src.grown {w w' : World} {v : Value} {n : Nat} {cs : List Value} {row : Option Nat} (h : Src w v n cs) (hb : w.grownBy w' row) (hne : v.ownBlock = none ∨ v.ownBlock ≠ row) : Src w' v n cs :=
  h.kept (fun b e hl => hb.block b hl (by rcases hne with hn | hn; · rw [hn] at e; cases e
                                          · rw [← e]; exact hn)) hb.size
/-- What is owned can be read. -/
theorem Src.own {w : World} {base : Nat} {e : TypeId} {size n : Nat} {v : Value} {cs : List Value} (h : w.ownsRow base e size v n cs) : Src w v n cs := by
  obtain ⟨hl, h⟩ := h
  rcases h with ⟨rfl, rfl⟩ | ⟨g, cap, cur, rfl, hb, hg, h1, h2, h3, h4⟩
  · exact .inl ⟨rfl, rfl, List.eq_nil_of_length_eq_zero (by omega)⟩
  · refine .inr ⟨g, 0, cap, rfl, h1, h2, (Array.getElem?_eq_some_iff.1 hg).1, fun j u hj => ?_⟩
    rw [cell_of_row w g (0 + j) cur e (0, 0) hg, Nat.zero_add]
    rw [← h4, List.getElem?_take] at hj
    split at hj
    · simpa using hj
    · cases hj
/-- A new block of one or more elements, as 'buildSlice' lays it. -/
theorem Src.built (w : World) (cs : List Value) (e : TypeId) (n c : Nat) (h1 : n ≤ c) (h2 : c ≤ maxLen) : Src (w.alloc (.cells cs.toArray e)) (.slice (some ⟨w.heap.size, 0, none⟩) n c) n cs :=
  .inr ⟨w.heap.size, 0, c, rfl, h1, h2, by simp, fun j u hj => by rw [Nat.zero_add]; exact cell_new w cs e j u hj⟩

/-- 'append' onto a row of the call's own, whatever is appended. -/
theorem app {P : Program} {w : World} {ops : Array Oper} {rest : List Oper} {o : Oper} {a : Act} {Q : Exit → Act → World → Prop} (hgd : o.guard = none) (s x : Operand) (t : TypeId)
    (ho : o.op = .call { callee := .builtin .append, args := #[s, x], argTypes := #[t, t] }) {e : TypeId} {z : Value} {size bytes : Nat} (E : Elem P t e z size bytes)
    (base : Nat) (v : Value) (n : Nat) (xs : List Value) (hs : a.eval s = v) (hown : w.ownsRow base e size v n xs) (m : Nat) (news : List Value) (x0 : Value) (hx0 : a.eval x = x0) (hx : Src w x0 m news)
    (hl : news.length = m * size) (h1 : ∀ u ∈ news, u.oneCell' = true) (h63 : n + m ≤ maxLen) (hbytes : (n + m) * bytes ≤ 140737488355328) (hbase : base ≤ w.heap.size)
    (h : ∀ v' w', w'.ownsRow base e size v' (n + m) (xs ++ news) → w.grownBy w' v.ownBlock → (v'.ownBlock = v.ownBlock ∨ v'.ownBlock = some w.heap.size) → wpList P ops Q rest (a.put o.dst v') w') : wpList P ops Q (o :: rest) a w := by
  obtain ⟨ht, hi0, hzs, hsz⟩ := E
  obtain ⟨i, hi, hz, hsize, hby⟩ := info_parts hi0
  rcases hx with ⟨rfl, rfl, rfl⟩ | ⟨b, of, c, rfl, g1, g2, g3, g4⟩
  · refine wpList_append_own_none hgd s x t ho base e i size ht hi v n xs hs hown hx0 ?_
    exact h v w (by simpa using hown) ⟨rfl, rfl, rfl, Nat.le_refl _, fun _ _ _ => rfl⟩ (.inl rfl)
  · refine wpList_plain hgd fun K hK => ?_
    obtain ⟨v', w', hr, h2, h3, _, h5⟩ := run_append_own_at (P := P) w base t o.type e i z size bytes ht hi hz hsize hby hzs hsz v n xs hown ⟨b, of, none⟩ m c news hl (fun j u hj => by rw [add_at]; exact g4 j u hj) h1 h63 hbytes hbase
    unfold Oper.wp execOp
    simp only [ho, resolve, invoke, builtin, Sem.run_bind, Sem.run_pure, Result.andThen_ok, List.map_toArray, List.map_cons, List.map_nil, hs, hx0, hr]
    exact hK _ _ (h v' w' h2 h3 h5)

/-- A slice of whole numbers that can be read. -/
def Ints (k : IntKind) (w : World) (v : Value) (xs : List Int) : Prop := Src w v xs.length (xs.map fun x => .int k x)
/-- The number at a place. -/
def at0 (xs : List Int) (i : Nat) : Int := xs.getD i 0
theorem at0_get (xs : List Int) (i : Nat) (h : i < xs.length) : xs[i]? = some (at0 xs i) := by simp [at0, List.getElem?_eq_getElem h]
theorem at0_mem (xs : List Int) (i : Nat) (h : i < xs.length) : at0 xs i ∈ xs := by
  have := at0_get xs i h
  exact List.mem_of_getElem? this
theorem drop_at (xs : List Int) (i : Nat) (h : i < xs.length) : xs.drop i = at0 xs i :: xs.drop (i + 1) := by
  rw [List.drop_eq_getElem_cons h]; simp [at0, h]
theorem take_at (xs : List Int) (i : Nat) (h : i < xs.length) : xs.take (i + 1) = xs.take i ++ [at0 xs i] := by
  rw [List.take_succ_eq_append_getElem h]; simp [at0, h]
theorem Ints.cells {k : IntKind} {w : World} {A : Option Addr} {n c : Nat} {xs : List Int} (h : Ints k w (.slice A n c) xs) :
    n = xs.length ∧ n ≤ c ∧ c ≤ maxLen ∧ (0 < n → ∃ b o, A = some ⟨b, o, none⟩ ∧ ∀ i, i < n → w.cell? ⟨b, o + i, none⟩ = some (.int k (at0 xs i))) := by
  rcases h with ⟨h1, h2, _⟩ | ⟨b, o, c', h1, h2, h3, h4, h5⟩
  · cases h1; exact ⟨by omega, by omega, by simp [maxLen], fun h => by omega⟩
  · cases h1
    exact ⟨rfl, h2, h3, fun _ => ⟨b, o, rfl, fun i hi => h5 i _ (by rw [List.getElem?_map, at0_get xs i hi]; rfl)⟩⟩
theorem Ints.shape {k : IntKind} {w : World} {v : Value} {xs : List Int} (h : Ints k w v xs) : ∃ A c, v = .slice A xs.length c := by
  rcases h with ⟨h1, h2, _⟩ | ⟨b, o, c', h1, _⟩
  · exact ⟨none, 0, by rw [h1, h2]⟩
  · exact ⟨_, c', h1⟩
theorem Ints.below {k : IntKind} {w w' : World} {v : Value} {xs : List Int} (h : Ints k w v xs) (hb : Below w.heap.size w w') : Ints k w' v xs := Src.below h hb
theorem Ints.grown {k : IntKind} {w w' : World} {v : Value} {xs : List Int} {row : Option Nat} (h : Ints k w v xs) (hb : w.grownBy w' row) (hne : v.ownBlock = none ∨ v.ownBlock ≠ row) : Ints k w' v xs := Src.grown h hb hne
theorem Ints.nil (k : IntKind) (w : World) : Ints k w (.slice none 0 0) [] := Src.nil w
/-- A row of whole numbers of the call's own. -/
def OwnI (k : IntKind) (e : TypeId) (w : World) (base : Nat) (v : Value) (xs : List Int) : Prop := w.ownsRow base e 1 v xs.length (xs.map fun x => .int k x)
theorem OwnI.ints {k : IntKind} {e : TypeId} {w : World} {base : Nat} {v : Value} {xs : List Int} (h : OwnI k e w base v xs) : Ints k w v xs := Src.own h
theorem OwnI.nil (k : IntKind) (e : TypeId) (w : World) (base : Nat) : OwnI k e w base (.slice none 0 0) [] := World.ownsRow_nil w base e 1
theorem OwnI.below {k : IntKind} {e : TypeId} {w w' : World} {base : Nat} {v : Value} {xs : List Int} (h : OwnI k e w base v xs) (hb : Below w.heap.size w w') : OwnI k e w' base v xs :=
  h.kept (row := none) ⟨hb.os, hb.tape, hb.output, hb.size, fun k hk _ => hb.block k hk⟩ (by cases v.ownBlock <;> simp)
theorem OwnI.mono {k : IntKind} {e : TypeId} {w : World} {base base' : Nat} {v : Value} {xs : List Int} (h : OwnI k e w base v xs) (hb : base' ≤ base) : OwnI k e w base' v xs := by
  obtain ⟨h1, h2⟩ := h
  refine ⟨h1, ?_⟩
  rcases h2 with h2 | ⟨g, cap, cur, hv, hg, r⟩
  · exact .inl h2
  · exact .inr ⟨g, cap, cur, hv, by omega, r⟩
theorem ints_one (k : IntKind) (xs : List Int) : ∀ u ∈ xs.map (fun x => Value.int k x), u.oneCell' = true := by
  intro u hu
  simp only [List.mem_map] at hu
  obtain ⟨x, _, rfl⟩ := hu
  rfl
/-- 'append' of whole numbers onto a row of the call's own. -/
theorem appI {P : Program} {w : World} {ops : Array Oper} {rest : List Oper} {o : Oper} {a : Act} {Q : Exit → Act → World → Prop} (hgd : o.guard = none) (s x : Operand) (t : TypeId)
    (ho : o.op = .call { callee := .builtin .append, args := #[s, x], argTypes := #[t, t] }) (k : IntKind) {e : TypeId} {z : Value} {bytes : Nat} (E : Elem P t e z 1 bytes)
    (base : Nat) (v : Value) (xs : List Int) (hs : a.eval s = v) (hown : OwnI k e w base v xs) (x0 : Value) (news : List Int) (hx0 : a.eval x = x0) (hx : Ints k w x0 news)
    (hb : bytes ≤ 8) (hlen : xs.length + news.length ≤ 1099511627776) (hbase : base ≤ w.heap.size)
    (h : ∀ v' w', OwnI k e w' base v' (xs ++ news) → w.grownBy w' v.ownBlock → (v'.ownBlock = v.ownBlock ∨ v'.ownBlock = some w.heap.size) → wpList P ops Q rest (a.put o.dst v') w') : wpList P ops Q (o :: rest) a w := by
  refine app hgd s x t ho E base v xs.length _ hs hown news.length _ x0 hx0 hx (by simp) (ints_one k news) (by simp only [maxLen]; omega) (Nat.le_trans (Nat.mul_le_mul hlen hb) (by decide)) hbase fun v' w' h1 h2 h3 => h v' w' ?_ h2 h3
  unfold OwnI
  rw [List.length_append, List.map_append]
  exact h1
theorem Ints.built1 (k : IntKind) (w : World) (x : Int) (e : TypeId) (H : Nat) (hH : w.heap.size = H) : Ints k (w.alloc (.cells #[.int k x] e)) (.slice (some ⟨H, 0, none⟩) 1 1) [x] := by subst hH; exact Src.built w [.int k x] e 1 1 (by omega) (by simp [maxLen])
theorem OwnI.built (k : IntKind) (e : TypeId) (w : World) (base : Nat) (xs : List Int) (H : Nat) (hH : w.heap.size = H) (hb : base ≤ H) (hl : xs.length ≤ 1000) :
    OwnI k e (w.alloc (.cells (xs.map fun x => Value.int k x).toArray e)) base (.slice (some ⟨H, 0, none⟩) xs.length xs.length) xs := by
  subst hH
  exact ⟨by simp, .inr ⟨w.heap.size, xs.length, _, rfl, hb, heap_alloc_new w _, Nat.le_refl _, by simp only [maxLen]; omega, by simp, by simp [List.take_of_length_le]⟩⟩
theorem Src.ne_nil {w : World} {v : Value} {n : Nat} {cs : List Value} (h : Src w v n cs) (hn : 0 < n) : v ≠ .slice none 0 0 := by
  rcases h with ⟨_, h, _⟩ | ⟨b, o, c, rfl, _⟩
  · omega
  · intro h; cases h
theorem Ints.ne_nil {k : IntKind} {w : World} {v : Value} {xs : List Int} (h : Ints k w v xs) (hn : 0 < xs.length) : v ≠ .slice none 0 0 := Src.ne_nil h hn
theorem OwnI.base_le {k : IntKind} {e : TypeId} {w : World} {base : Nat} {v : Value} {xs : List Int} (h : OwnI k e w base v xs) {w0 : World} (hb : w0.heap.size ≤ base) : ∀ b, v.ownBlock = some b → w0.heap.size ≤ b := fun b hv => Nat.le_trans hb (h.lt b hv).1
theorem Below.of_grown {w w1 w2 : World} {row : Option Nat} (h : Below w.heap.size w w1) (hg : w1.grownBy w2 row) (hr : ∀ k, row = some k → w.heap.size ≤ k) : Below w.heap.size w w2 := h.grown hg h.size hr
theorem OwnI.base {k : IntKind} {e : TypeId} {w : World} {base : Nat} {v : Value} {xs : List Int} (h : OwnI k e w base v xs) : ∀ b, v.ownBlock = some b → base ≤ b := fun b hb => (h.lt b hb).1
theorem elemRune : Elem Tryz.prog 127 21 (.int .i32 0) 1 4 := ⟨Tryz.underlying127, by kernel_rfl, rfl, by omega⟩
theorem elemByte : Elem Tryz.prog 22 5 (.int .u8 0) 1 1 := ⟨Tryz.underlying22, by kernel_rfl, rfl, by omega⟩
theorem elemInt : Elem Tryz.prog 249 3 (.int .i64 0) 1 8 := ⟨Tryz.underlying249, by kernel_rfl, rfl, by omega⟩
end Go.Proofs.YtoemaogfnimapabGreatDoor
