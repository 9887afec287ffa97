/-
  Slots and heads in blocks of their own.
-/
import Derived.Test.YtmbjebdkhcpclaaEP
import Derived.Deep.WholeRow
set_option linter.unusedSimpArgs false
set_option linter.unusedVariables false
namespace Go.Proofs.Ytmbjebdkhcpclaa
open Go.RowKit

theorem RdP.keep {q : Nat → Prop} {w w' : World} {g g' : Nat} {xs : List Int} {p : Nat} (h : RdP q w g xs p) (hG : w.grownBy w' (some g')) (hg : g < g') : RdP q w' g xs p := by
  obtain ⟨ys, e, h1, h2⟩ := h; exact ⟨ys, e, h1.keep hG hg, h2⟩
theorem RdP.lt {q : Nat → Prop} {w : World} {g : Nat} {xs : List Int} {p : Nat} (h : RdP q w g xs p) : g < w.heap.size := by
  obtain ⟨ys, e, h1, h2⟩ := h; exact h1.lt
theorem grown_block {w w' : World} {g b : Nat} {o : Obj} (hG : w.grownBy w' (some g)) (h : w.heap[b]? = some o) (hne : b ≠ g) : w'.heap[b]? = some o :=
  (hG.block b (Array.getElem?_eq_some_iff.1 h).1 (fun e => by injection e; omega)).trans h
theorem set_block {w : World} {g j b : Nat} {u : Value} {o : Obj} (h : w.heap[b]? = some o) (hne : b ≠ g) : (w.setCell ⟨g, j, none⟩ u).heap[b]? = some o :=
  (Below.heap_setCell w ⟨g, j, none⟩ u b hne).trans h

/-- 'wpList_load_row' for an operation under a guard that is met. -/
theorem wpList_load_rowg {P : Program} {ops : Array Oper} {rest : List Oper} {o : Oper} {a : Act} {w : World} {Q : Exit → Act → World → Prop} (hw : Region.wanted o (yielded ops a.tmps) = true) (ty : TypeId) (x : Operand) (ho : o.op = .load ty x)
    (g : Nat) (hx : a.eval x = .pointer (some ⟨g, 0, none⟩)) (t : TypeId) (cs : Array Value) (fr : Nat × Nat) (d : TypeDesc) (hg : w.heap[g]? = some (.cells cs t fr))
    (hu : P.underlying ty = some d) (hd : (match d with | .struct _ | .array _ _ => true | _ => false) = true) (hi : (P.info? ty).map (·.size) = some cs.size)
    (h : wpList P ops Q rest (a.put o.dst (.agg cs)) w) : wpList P ops Q (o :: rest) a w :=
  wpList_step fun K hK => by
    rw [hw]
    simp only [if_true]
    exact wp_load_row ty x ho g hx t cs fr d hg hu hd hi (hK _ _ h)
section
variable {P : Program} {ops : Array Oper} {o : Oper} {a : Act} {w : World} {K : Act → World → Prop} {Q : Exit → Act → World → Prop} {E : Prop}
/-- Steps of a region that draws. -/
theorem step_load_row (hgd : o.guard = none) (ty : TypeId) (x : Operand) (ho : o.op = .load ty x) (g : Nat) (hx : a.eval x = .pointer (some ⟨g, 0, none⟩)) (t : TypeId) (cs : Array Value) (fr : Nat × Nat) (d : TypeDesc) (hg : w.heap[g]? = some (.cells cs t fr))
    (hu : P.underlying ty = some d) (hd : (match d with | .struct _ | .array _ _ => true | _ => false) = true) (hi : (P.info? ty).map (·.size) = some cs.size)
    (h : K (a.put o.dst (.agg cs)) w) : if Region.wanted o (yielded ops a.tmps) = true then Oper.wp P o a w K Q else E := by
  rw [if_pos (by simp [Region.wanted, hgd])]
  exact wp_load_row ty x ho g hx t cs fr d hg hu hd hi h
theorem step_store_row (hgd : o.guard = none) (ty : TypeId) (x y : Operand) (ho : o.op = .store ty x y) (g : Nat) (cells : Array Value) (hx : a.eval x = .pointer (some ⟨g, 0, none⟩)) (hy : a.eval y = .agg cells)
    (t : TypeId) (old : Array Value) (hg : w.heap[g]? = some (.cells old t (0, 0))) (hi : (P.info? ty).map (·.size) = some cells.size) (hold : old.size = cells.size) (h1 : cells.all (·.oneCell') = true)
    (h : K (a.put o.dst undef) (w.setRow g cells)) : if Region.wanted o (yielded ops a.tmps) = true then Oper.wp P o a w K Q else E := by
  rw [if_pos (by simp [Region.wanted, hgd])]
  exact wp_store_row ty x y ho g cells hx hy t old hg hi hold h1 h
theorem step_assign (hgd : o.guard = none) (x : Operand) (ho : o.op = .assign x) (h : K (a.put o.dst (a.eval x)) w) : if Region.wanted o (yielded ops a.tmps) = true then Oper.wp P o a w K Q else E := by
  rw [if_pos (by simp [Region.wanted, hgd])]
  unfold Oper.wp
  simp [execOp, ho]
  exact h
end
theorem heap_setRow (w : World) (g b : Nat) (cs : Array Value) (hne : b ≠ g) : (w.setRow g cs).heap[b]? = w.heap[b]? := by
  unfold World.setRow
  rw [Array.getElem?_modify, if_neg (fun e => hne e.symm)]
theorem row_keep {w : World} {g b : Nat} {cs : Array Value} {o : Obj} (h : w.heap[b]? = some o) (hne : b ≠ g) : (w.setRow g cs).heap[b]? = some o := (heap_setRow w g b cs hne).trans h
theorem row_at {w : World} {g : Nat} {old cs : Array Value} {t : TypeId} (h : w.heap[g]? = some (.cells old t (0, 0))) : (w.setRow g cs).heap[g]? = some (.cells cs t (0, 0)) := by
  unfold World.setRow
  rw [Array.getElem?_modify, if_pos rfl, h]
  rfl
theorem Ext.row {w0 w : World} (h : Ext w0 w) {g : Nat} (hg : w0.heap.size ≤ g) (cs : Array Value) : Ext w0 (w.setRow g cs) :=
  ⟨h.os, h.tape, h.output, by show w0.heap.size ≤ (w.heap.modify g _).size; rw [Array.size_modify]; exact h.size, fun i hi => (heap_setRow w g i cs (by omega)).trans (h.block i hi)⟩
/-- A slot, a head in a block of its own. -/
def SlotAt (w : World) (b : Nat) (k l s : Int) (d : Nat → Int) : Prop := w.heap[b]? = some (.cells (slotCells k l s d) 24 (0, 0))
def HeadAt (w : World) (b : Nat) (x y z u : Int) : Prop := w.heap[b]? = some (.cells #[.int .i64 x, .int .i64 y, .int .i64 z, .int .i64 u] 30 (0, 0))
theorem SlotAt.ext {w w' : World} {b : Nat} {k l s : Int} {d : Nat → Int} (h : SlotAt w b k l s d) (hE : Ext w w') : SlotAt w' b k l s d := hE.heap h
theorem HeadAt.ext {w w' : World} {b : Nat} {x y z u : Int} (h : HeadAt w b x y z u) (hE : Ext w w') : HeadAt w' b x y z u := hE.heap h
theorem SlotAt.grown {w w' : World} {g b : Nat} {k l s : Int} {d : Nat → Int} (h : SlotAt w b k l s d) (hG : w.grownBy w' (some g)) (hne : b ≠ g) : SlotAt w' b k l s d := grown_block hG h hne
theorem HeadAt.grown {w w' : World} {g b : Nat} {x y z u : Int} (h : HeadAt w b x y z u) (hG : w.grownBy w' (some g)) (hne : b ≠ g) : HeadAt w' b x y z u := grown_block hG h hne
theorem SlotAt.lt {w : World} {b : Nat} {k l s : Int} {d : Nat → Int} (h : SlotAt w b k l s d) : b < w.heap.size := (Array.getElem?_eq_some_iff.1 h).1
theorem HeadAt.lt {w : World} {b : Nat} {x y z u : Int} (h : HeadAt w b x y z u) : b < w.heap.size := (Array.getElem?_eq_some_iff.1 h).1
theorem SlotAt.new (w : World) (k l s : Int) (d : Nat → Int) : SlotAt (w.alloc (.cells (slotCells k l s d) 24)) w.heap.size k l s d := heap_alloc_new w _
theorem HeadAt.new (w : World) (x y z u : Int) : HeadAt (w.alloc (.cells #[.int .i64 x, .int .i64 y, .int .i64 z, .int .i64 u] 30)) w.heap.size x y z u := heap_alloc_new w _
theorem slotCells_get (k l s : Int) (d : Nat → Int) (j : Nat) (h : j < 16) : (slotCells k l s d)[3 + j]? = some (.int .u8 (d j)) := by
  have : j = 0 ∨ j = 1 ∨ j = 2 ∨ j = 3 ∨ j = 4 ∨ j = 5 ∨ j = 6 ∨ j = 7 ∨ j = 8 ∨ j = 9 ∨ j = 10 ∨ j = 11 ∨ j = 12 ∨ j = 13 ∨ j = 14 ∨ j = 15 := by omega
  rcases this with rfl | rfl | rfl | rfl | rfl | rfl | rfl | rfl | rfl | rfl | rfl | rfl | rfl | rfl | rfl | rfl <;> rfl
theorem SlotAt.byte {w : World} {b : Nat} {k l s : Int} {d : Nat → Int} (h : SlotAt w b k l s d) (j : Nat) (hj : j < 16) : w.cell? ⟨b, 3 + j, none⟩ = some (.int .u8 (d j)) ∧ w.frozen? ⟨b, 3 + j, none⟩ = false :=
  ⟨(cell_of_block h (3 + j)).trans (slotCells_get k l s d j hj), frozen_of_block h _⟩
theorem slotCells_set (k l s : Int) (d : Nat → Int) (j : Nat) (hj : j < 16) (v : Int) : (slotCells k l s d).setIfInBounds (3 + j) (.int .u8 v) = slotCells k l s (fun i => if i = j then v else d i) := by
  have : j = 0 ∨ j = 1 ∨ j = 2 ∨ j = 3 ∨ j = 4 ∨ j = 5 ∨ j = 6 ∨ j = 7 ∨ j = 8 ∨ j = 9 ∨ j = 10 ∨ j = 11 ∨ j = 12 ∨ j = 13 ∨ j = 14 ∨ j = 15 := by omega
  rcases this with rfl | rfl | rfl | rfl | rfl | rfl | rfl | rfl | rfl | rfl | rfl | rfl | rfl | rfl | rfl | rfl <;> rfl
theorem slotCells_congr (k l s : Int) (d e : Nat → Int) (h : ∀ j, j < 16 → d j = e j) : slotCells k l s d = slotCells k l s e := by
  unfold slotCells
  rw [h 0 (by decide), h 1 (by decide), h 2 (by decide), h 3 (by decide), h 4 (by decide), h 5 (by decide), h 6 (by decide), h 7 (by decide), h 8 (by decide), h 9 (by decide), h 10 (by decide), h 11 (by decide), h 12 (by decide), h 13 (by decide), h 14 (by decide), h 15 (by decide)]
theorem SlotAt.congr {w : World} {b : Nat} {k l s : Int} {d e : Nat → Int} (h : SlotAt w b k l s d) (he : ∀ j, j < 16 → d j = e j) : SlotAt w b k l s e := by
  unfold SlotAt at *; rw [← slotCells_congr k l s d e he]; exact h
theorem SlotAt.set {w : World} {b : Nat} {k l s : Int} {d : Nat → Int} (h : SlotAt w b k l s d) (j : Nat) (hj : j < 16) (v : Int) : SlotAt (w.setCell ⟨b, 3 + j, none⟩ (.int .u8 v)) b k l s (fun i => if i = j then v else d i) := by
  unfold SlotAt at *
  rw [heap_setCell_at h, slotCells_set _ _ _ _ _ hj]
theorem results_parse {fn : Func} (hr : fn.results = #[.cell 2 30, .cell 3 24, .tmp 4]) (tmps : Array Value) (w : World) (A S : Nat) (x y z u k l s n : Int) (d : Nat → Int) (hh : HeadAt w A x y z u) (hs : SlotAt w S k l s d)
    (h2 : tmps.getD 2 undef = .pointer (some ⟨A, 0, none⟩)) (h3 : tmps.getD 3 undef = .pointer (some ⟨S, 0, none⟩)) (h4 : tmps.getD 4 undef = .int .i64 n) :
    (results fn tmps).run Try.prog w = .ok (.tuple #[headVal x y z u, slotVal k l s d, .int .i64 n]) w := by
  have h2' : tmps[2]?.getD undef = .pointer (some ⟨A, 0, none⟩) := by simpa using h2
  have h3' : tmps[3]?.getD undef = .pointer (some ⟨S, 0, none⟩) := by simpa using h3
  have h4' : tmps[4]?.getD undef = .int .i64 n := by simpa using h4
  have l1 := run_loadVar_row (P := Try.prog) w A 30 30 (headCells x y z u) (0, 0) _ hh Try.underlying30 rfl (head_info ..)
  have l2 := run_loadVar_row (P := Try.prog) w S 24 24 (slotCells k l s d) (0, 0) _ hs Try.underlying24 rfl (slot_info ..)
  simp [results, hr, h2', h3', h4', asAddr, l1, l2]
theorem i64_or_small (a b : Int) (h1 : 0 ≤ a) (h2 : a < 256) (h3 : 0 ≤ b) (h4 : b < 256) : ∃ c, bits .or .i64 a b = c ∧ 0 ≤ c ∧ c < 256 ∧ (c = 0 ↔ a = 0 ∧ b = 0) := by
  obtain ⟨A, rfl⟩ := Int.eq_ofNat_of_zero_le h1
  obtain ⟨B, rfl⟩ := Int.eq_ofNat_of_zero_le h3
  have hx : A ||| B < 2 ^ 8 := Nat.or_lt_two_pow (by omega) (by omega)
  refine ⟨((A ||| B : Nat) : Int), ?_, by omega, by omega, ?_⟩
  · show IntKind.i64.wrap ((BitVec.ofInt 64 (A : Int) ||| BitVec.ofInt 64 (B : Int)).toNat : Int) = _
    rw [BitVec.toNat_or, ofInt_u64 A (by omega), ofInt_u64 B (by omega), IntKind.wrap_i64]
    omega
  · have := @Nat.or_eq_zero_iff A B
    omega
theorem HeadAt.set0 {w : World} {b : Nat} {x y z u : Int} (h : HeadAt w b x y z u) (v : Int) : HeadAt (w.setCell ⟨b, 0, none⟩ (.int .i64 v)) b v y z u := by
  unfold HeadAt at *; rw [heap_setCell_at h]; rfl
theorem HeadAt.set1 {w : World} {b : Nat} {x y z u : Int} (h : HeadAt w b x y z u) (v : Int) : HeadAt (w.setCell ⟨b, 1, none⟩ (.int .i64 v)) b x v z u := by
  unfold HeadAt at *; rw [heap_setCell_at h]; rfl
theorem HeadAt.set2 {w : World} {b : Nat} {x y z u : Int} (h : HeadAt w b x y z u) (v : Int) : HeadAt (w.setCell ⟨b, 2, none⟩ (.int .i64 v)) b x y v u := by
  unfold HeadAt at *; rw [heap_setCell_at h]; rfl
theorem HeadAt.set3 {w : World} {b : Nat} {x y z u : Int} (h : HeadAt w b x y z u) (v : Int) : HeadAt (w.setCell ⟨b, 3, none⟩ (.int .i64 v)) b x y z v := by
  unfold HeadAt at *; rw [heap_setCell_at h]; rfl
theorem SlotAt.setK {w : World} {b : Nat} {k l s : Int} {d : Nat → Int} (h : SlotAt w b k l s d) (v : Int) : SlotAt (w.setCell ⟨b, 0, none⟩ (.int .i64 v)) b v l s d := by
  unfold SlotAt at *; rw [heap_setCell_at h]; rfl
theorem SlotAt.setL {w : World} {b : Nat} {k l s : Int} {d : Nat → Int} (h : SlotAt w b k l s d) (v : Int) : SlotAt (w.setCell ⟨b, 1, none⟩ (.int .i64 v)) b k v s d := by
  unfold SlotAt at *; rw [heap_setCell_at h]; rfl
theorem SlotAt.setS {w : World} {b : Nat} {k l s : Int} {d : Nat → Int} (h : SlotAt w b k l s d) (v : Int) : SlotAt (w.setCell ⟨b, 2, none⟩ (.int .i64 v)) b k l v d := by
  unfold SlotAt at *; rw [heap_setCell_at h]; rfl
theorem HeadAt.cells {w : World} {b : Nat} {x y z u : Int} (h : HeadAt w b x y z u) : (w.cell? ⟨b, 0, none⟩ = some (.int .i64 x) ∧ w.cell? ⟨b, 1, none⟩ = some (.int .i64 y) ∧ w.cell? ⟨b, 2, none⟩ = some (.int .i64 z) ∧ w.cell? ⟨b, 3, none⟩ = some (.int .i64 u)) ∧ ∀ j, w.frozen? ⟨b, j, none⟩ = false :=
  ⟨⟨cell_of_block h 0, cell_of_block h 1, cell_of_block h 2, cell_of_block h 3⟩, fun j => frozen_of_block h j⟩
theorem SlotAt.heads {w : World} {b : Nat} {k l s : Int} {d : Nat → Int} (h : SlotAt w b k l s d) : (w.cell? ⟨b, 0, none⟩ = some (.int .i64 k) ∧ w.cell? ⟨b, 1, none⟩ = some (.int .i64 l) ∧ w.cell? ⟨b, 2, none⟩ = some (.int .i64 s)) ∧ ∀ j, w.frozen? ⟨b, j, none⟩ = false :=
  ⟨⟨cell_of_block h 0, cell_of_block h 1, cell_of_block h 2⟩, fun j => frozen_of_block h j⟩
theorem RfP.lt {q : Nat → Prop} {w : World} {g : Nat} {xs : List Int} {p : Nat} (h : RfP q w g xs p) : g < w.heap.size := by
  obtain ⟨ys, e, h1, h2⟩ := h; exact h1.lt
/-- The front of a sector. -/
def frontOf (d : Nat → Int) (j i : Nat) : Int := if i < j then d i else 0

end Go.Proofs.Ytmbjebdkhcpclaa
