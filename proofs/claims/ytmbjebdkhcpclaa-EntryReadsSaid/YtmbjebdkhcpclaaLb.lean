/-
  Words for slices that are read or owned, and how they live on while the world only grows. Plain lemmas over any program.
-/
import Derived.Test.YtmbjebdkhcpclaaRg
import Derived.Below
import Derived.OwnWalk
import Derived.Laws.BytesArg
import Derived.Laws.MakeOwn
import Derived.Laws.OwnMore
import Derived.Laws.AppendOwnNone
import Derived.Lib.ConvBytes
import Derived.Maps.AppendAt
import Derived.WalkSpells
import Derived.WalkLawsBesides
import Derived.Lib.Hide
import Derived.Deep.LoopGhost
import Derived.Deep.DeepFit
import Derived.Deep.DeepMust
import Derived.LoopTactic
set_option linter.unusedSimpArgs false
set_option linter.unusedVariables false
namespace Go.Proofs.Ytmbjebdkhcpclaa
open Go.RowKit

/-- The world has only grown: every block that was there is as it was. -/
abbrev Ext (w w' : World) : Prop := Below w.heap.size w w'
theorem Ext.refl (w : World) : Ext w w := Below.refl _ _
theorem Ext.trans {a b c : World} (h : Ext a b) (k : Ext b c) : Ext a c := Below.trans h (k.mono h.size)
theorem Ext.alloc {a b : World} (h : Ext a b) (o : Obj) : Ext a (b.alloc o) := Below.alloc h h.size o
theorem Ext.drew {a b : World} (h : Ext a b) : Ext a b.drew := Below.drew h
theorem Ext.drew1 (a : World) : Ext a a.drew := (Below.refl _ _).drew
theorem Ext.of_drew {a b : World} (h : Ext a.drew b) : Ext a b := ⟨h.os, h.tape, h.output, h.size, h.block⟩
theorem Ext.cell {w w' : World} (h : Ext w w') {a : Addr} {v : Value} (hc : w.cell? a = some v) : w'.cell? a = some v := (Below.cell h (World.block_lt_of_cell? w a hc)).trans hc
theorem Ext.heap {w w' : World} (h : Ext w w') {b : Nat} {o : Obj} (hc : w.heap[b]? = some o) : w'.heap[b]? = some o := (h.block b (Array.getElem?_eq_some_iff.1 hc).1).trans hc
theorem Ext.grown {a b c : World} (h : Ext a b) (hg : b.grownBy c none) : Ext a c := Below.grown h hg h.size (fun _ e => by cases e)

theorem addr_add (g j : Nat) : (⟨g, 0, none⟩ : Addr).add j = ⟨g, j, none⟩ := by unfold Addr.add; split <;> simp_all

/-- A slice value that reads as these cells; 'n' elements. -/
def RdC (w : World) (v : Value) (n : Nat) (cs : List Value) : Prop :=
  ∃ A c, v = .slice A n c ∧ n ≤ c ∧ c ≤ maxLen ∧ (cs ≠ [] → ∃ b off, A = some ⟨b, off, none⟩ ∧ ∀ j u, cs[j]? = some u → w.cell? ⟨b, off + j, none⟩ = some u) ∧ (A = none → n = 0 ∧ c = 0)

theorem RdC.ext {w w' : World} {v : Value} {n : Nat} {cs : List Value} (h : RdC w v n cs) (he : Ext w w') : RdC w' v n cs := by
  obtain ⟨A, c, rfl, h1, h2, h3, h4⟩ := h
  refine ⟨A, c, rfl, h1, h2, fun hn => ?_, h4⟩
  obtain ⟨b, off, ha, hc⟩ := h3 hn
  exact ⟨b, off, ha, fun j u hu => he.cell (hc j u hu)⟩

theorem RdC.shape {w : World} {v : Value} {n : Nat} {cs : List Value} (h : RdC w v n cs) : ∃ A c, v = .slice A n c := by
  obtain ⟨A, c, h, _⟩ := h; exact ⟨A, c, h⟩
theorem ownsRow.shape {w : World} {base : Nat} {e : TypeId} {size n : Nat} {v : Value} {xs : List Value} (h : w.ownsRow base e size v n xs) : ∃ A c, v = .slice A n c := by
  rcases h.2 with ⟨rfl, rfl⟩ | ⟨g, cap, cur, rfl, _⟩ <;> exact ⟨_, _, rfl⟩

def nums (k : IntKind) (xs : List Int) : List Value := xs.map (Value.int k)
theorem nums_length (k : IntKind) (xs : List Int) : (nums k xs).length = xs.length := by simp [nums]
theorem nums_append (k : IntKind) (xs ys : List Int) : nums k (xs ++ ys) = nums k xs ++ nums k ys := by simp [nums]
theorem nums_get (k : IntKind) (xs : List Int) (j : Nat) (h : j < xs.length) : (nums k xs)[j]? = some (.int k (xs.getD j 0)) := by
  simp [nums, List.getElem?_eq_getElem h, List.getD_eq_getElem?_getD]
theorem nums_one (k : IntKind) (xs : List Int) : ∀ u ∈ nums k xs, u.oneCell' = true := ints_oneCell k xs

/-- A slice of numbers that is read. -/
abbrev Rd (w : World) (k : IntKind) (v : Value) (xs : List Int) : Prop := RdC w v xs.length (nums k xs)

/-- A slice of numbers that the call owns. -/
abbrev Own (w : World) (base : Nat) (e : TypeId) (k : IntKind) (v : Value) (xs : List Int) : Prop := w.ownsRow base e 1 v xs.length (nums k xs)

theorem ownsRow.ext {w w' : World} {base : Nat} {e : TypeId} {size n : Nat} {v : Value} {xs : List Value} (h : w.ownsRow base e size v n xs) (he : Ext w w') : w'.ownsRow base e size v n xs :=
  h.kept (w' := w') (row := none) ⟨he.os, he.tape, he.output, he.size, fun i hi _ => he.block i hi⟩ (by cases v.ownBlock <;> simp)

theorem ownsRow.base {w : World} {base base' : Nat} {e : TypeId} {size n : Nat} {v : Value} {xs : List Value} (h : w.ownsRow base e size v n xs) (hb : base' ≤ base) : w.ownsRow base' e size v n xs := by
  refine ⟨h.1, ?_⟩
  rcases h.2 with h2 | ⟨g, cap, cur, hv, hg, rest⟩
  · exact .inl h2
  · exact .inr ⟨g, cap, cur, hv, by omega, rest⟩

theorem ownsRow.reads {w : World} {base : Nat} {e : TypeId} {size n : Nat} {v : Value} {xs : List Value} (h : w.ownsRow base e size v n xs) : RdC w v n xs := by
  have h1 := h.1
  rcases h.2 with ⟨rfl, rfl⟩ | ⟨g, cap, cur, rfl, hb, hg, hnc, hcm, hcs, ht⟩
  · refine ⟨none, 0, rfl, Nat.le_refl _, Nat.zero_le _, fun hn => absurd (List.eq_nil_of_length_eq_zero (by simpa using h1)) hn, fun _ => ⟨rfl, rfl⟩⟩
  · exact ⟨_, cap, rfl, hnc, hcm, fun _ => ⟨_, _, rfl, fun j u hu => by have := h.cells (g := g) rfl j u hu; rwa [Addr.add_lit] at this⟩, fun e => by cases e⟩

/-- From w to w' the value v has become v': what was there but for v's own block is as it was; the new value's own block is that one or a new one. -/
structure Grew (w w' : World) (v v' : Value) : Prop where
  grown : w.grownBy w' v.ownBlock
  own : ∀ k, v'.ownBlock = some k → w.heap.size ≤ k ∨ v.ownBlock = some k
theorem Grew.refl (w : World) (v : Value) : Grew w w v v := ⟨World.grownBy.refl _ _, fun _ h => .inr h⟩
theorem Grew.trans {a b c : World} {u v x : Value} (h : Grew a b u v) (k : Grew b c v x) : Grew a c u x := by
  refine ⟨⟨k.grown.os.trans h.grown.os, k.grown.tape.trans h.grown.tape, k.grown.output.trans h.grown.output, Nat.le_trans h.grown.size k.grown.size, fun i hi hne => ?_⟩, fun i hi => ?_⟩
  · rw [k.grown.block i (Nat.lt_of_lt_of_le hi h.grown.size) (fun e => ?_)]
    · exact h.grown.block i hi hne
    · rcases h.own i e.symm with h' | h'
      · omega
      · exact hne h'.symm
  · rcases k.own i hi with h' | h'
    · exact .inl (Nat.le_trans h.grown.size h')
    · exact h.own i h'
theorem Grew.alloc (w : World) (o : Obj) (v : Value) : Grew w (w.alloc o) v v := ⟨World.grownBy_alloc _ _ _, fun _ h => .inr h⟩
theorem Grew.below {w w' : World} {v v' : Value} (h : Grew w w' v v') {B : Nat} (hB : B ≤ w.heap.size) (hv : ∀ k, v.ownBlock = some k → B ≤ k) : Below B w w' :=
  (Below.refl B w).grown h.grown hB hv

theorem Own.pos {w : World} {base : Nat} {e : TypeId} {k : IntKind} {v : Value} {xs : List Int} (h : Own w base e k v xs) (hp : 0 < xs.length) :
    ∃ g c, v = .slice (some ⟨g, 0, none⟩) xs.length c ∧ xs.length ≤ c ∧ c ≤ maxLen ∧ base ≤ g ∧ ∀ j, j < xs.length → w.cell? ⟨g, j, none⟩ = some (.int k (xs.getD j 0)) ∧ w.frozen? ⟨g, j, none⟩ = false := by
  rcases h.2 with ⟨rfl, h0⟩ | ⟨g, cap, cur, rfl, hb, hg, hnc, hcm, hcs, ht⟩
  · omega
  · refine ⟨g, cap, rfl, hnc, hcm, hb, fun j hj => ⟨?_, ?_⟩⟩
    · have := h.cells (g := g) rfl j _ (nums_get k xs j hj)
      rwa [addr_add] at this
    · simp [World.frozen?, hg]
theorem Rd.pos {w : World} {k : IntKind} {v : Value} {xs : List Int} (h : Rd w k v xs) (hp : 0 < xs.length) :
    ∃ b off c, v = .slice (some ⟨b, off, none⟩) xs.length c ∧ xs.length ≤ c ∧ c ≤ maxLen ∧ ∀ j, j < xs.length → w.cell? ⟨b, off + j, none⟩ = some (.int k (xs.getD j 0)) := by
  obtain ⟨A, c, rfl, h1, h2, h3, h4⟩ := h
  obtain ⟨b, off, rfl, hc⟩ := h3 (by intro e; rw [← nums_length k, e] at hp; simp at hp)
  exact ⟨b, off, c, rfl, h1, h2, fun j hj => hc j _ (nums_get k xs j hj)⟩

/-- What append makes of a slice of one's own and of any slice that is read. -/
theorem run_append_reads {P : Program} (w : World) (base : Nat) (t ty e : TypeId) (z : Value) (size bytes : Nat) (ht : P.underlying t = some (.slice e))
    (hinfo : (P.info? e).map (fun i => (i.zero, i.size, i.bytes)) = some (some z, size, bytes)) (hzs : z.cells.size = size) (hsz : 0 < size)
    (v : Value) (n : Nat) (xs : List Value) (hown : w.ownsRow base e size v n xs) (u : Value) (m : Nat) (ys : List Value) (hl : ys.length = m * size) (hr : RdC w u m ys) (h1 : ∀ u ∈ ys, u.oneCell' = true)
    (hn : n + m ≤ maxLen) (hbytes : (n + m) * bytes ≤ 140737488355328) (hbase : base ≤ w.heap.size) :
    ∃ v' w', (Builtin.append_ #[t, t] ty #[v, u]).run P w = .ok v' w' ∧ w'.ownsRow base e size v' (n + m) (xs ++ ys) ∧ Grew w w' v v' := by
  obtain ⟨i, hi, hz, hs, hb⟩ := info_parts hinfo
  obtain ⟨A, c, rfl, hmc, hcm, hcells, hnone⟩ := hr
  cases A with
  | none =>
    obtain ⟨rfl, rfl⟩ := hnone rfl
    obtain rfl : ys = [] := List.eq_nil_of_length_eq_zero (by simpa using hl)
    exact ⟨v, w, run_append_owned_none w base t ty e i size ht hi v n xs hown, by simpa using hown, Grew.refl _ _⟩
  | some ad =>
    obtain ⟨v', w', hr, h2, h3, _, h5⟩ := run_append_own_at (P := P) w base t ty e i z size bytes ht hi hz hs hb hzs hsz v n xs hown ad m c ys hl
      (fun j u hu => by
        obtain ⟨b, off, ha, hc⟩ := hcells (by intro e; subst e; simp at hu)
        cases ha
        rw [Addr.add_lit]
        exact hc j u hu) h1 hn hbytes hbase
    exact ⟨v', w', hr, h2, h3, fun k hk => by rcases h5 with h5 | h5 <;> rw [h5] at hk <;> first | exact .inr hk | (cases hk; exact .inl (Nat.le_refl _))⟩

theorem wpList_append_reads {P : Program} {w : World} {ops : Array Oper} {rest : List Oper} {o : Oper} {a : Act} {Q : Exit → Act → World → Prop} (hgd : o.guard = none) (s x : Operand) (t : TypeId)
    (ho : o.op = .call { callee := .builtin .append, args := #[s, x], argTypes := #[t, t] })
    (base : Nat) (e : TypeId) (z : Value) (size bytes : Nat) (ht : P.underlying t = some (.slice e))
    (hinfo : (P.info? e).map (fun i => (i.zero, i.size, i.bytes)) = some (some z, size, bytes)) (hzs : z.cells.size = size) (hsz : 0 < size)
    (v : Value) (n : Nat) (xs : List Value) (u : Value) (m : Nat) (ys : List Value) (hs : a.eval s = v) (hx : a.eval x = u) (hown : w.ownsRow base e size v n xs) (hl : ys.length = m * size) (hr : RdC w u m ys) (h1 : ∀ u ∈ ys, u.oneCell' = true)
    (hn : n + m ≤ maxLen) (hbytes : (n + m) * bytes ≤ 140737488355328) (hbase : base ≤ w.heap.size)
    (h : ∀ v' w', w'.ownsRow base e size v' (n + m) (xs ++ ys) → Grew w w' v v' → wpList P ops Q rest (a.put o.dst v') w') : wpList P ops Q (o :: rest) a w := by
  obtain ⟨v', w', hrun, h2, h3⟩ := run_append_reads (P := P) w base t o.type e z size bytes ht hinfo hzs hsz v n xs hown u m ys hl hr h1 hn hbytes hbase
  refine wpList_plain hgd fun K hK => ?_
  unfold Oper.wp execOp
  simp only [ho, resolve, invoke, builtin, Sem.run_bind, Sem.run_pure, Result.andThen_ok, List.map_toArray, List.map_cons, List.map_nil, hs, hx, hrun]
  exact hK _ _ (h v' w' h2 h3)

theorem own_nil (w : World) (base : Nat) (e : TypeId) (size : Nat) : w.ownsRow base e size (.slice none 0 0) 0 [] := ⟨by simp, .inl ⟨rfl, rfl⟩⟩

/-- A literal's new block is read as what it holds. -/
theorem rd_new {w : World} (cs : Array Value) (e : TypeId) (n : Nat) (hn : n ≤ maxLen) : RdC (w.alloc (.cells cs e)) (.slice (some ⟨w.heap.size, 0, none⟩) n n) n cs.toList := by
  refine ⟨_, n, rfl, Nat.le_refl _, hn, fun _ => ⟨_, _, rfl, fun j u hu => ?_⟩, fun e => by cases e⟩
  rw [Nat.zero_add, cell_of_row _ _ j cs e (0, 0) (heap_alloc_new w _)]
  simpa using hu


section
variable {P : Program} {ops : Array Oper} {rest : List Oper} {o : Oper} {a : Act} {Q : Exit → Act → World → Prop}

/-- 'append(v, u...)' over numbers, v the call's own. -/
theorem wpList_append_rd {w0 W : World} (hgd : o.guard = none) (s x : Operand) (t e : TypeId) (k : IntKind) (bytes : Nat)
    (ho : o.op = .call { callee := .builtin .append, args := #[s, x], argTypes := #[t, t] }) (ht : P.underlying t = some (.slice e))
    (hinfo : (P.info? e).map (fun i => (i.zero, i.size, i.bytes)) = some (some (.int k 0), 1, bytes)) (hb : 0 < bytes)
    (v u : Value) (xs ys : List Int) (hs : a.eval s = v) (hx : a.eval x = u) (HO : Own W w0.heap.size e k v xs) (HR : Rd W k u ys) (HB : Ext w0 W)
    (hl : (xs.length + ys.length) * bytes ≤ 140737488355328)
    (h : ∀ v' w', Own w' w0.heap.size e k v' (xs ++ ys) → Ext w0 w' → wpList P ops Q rest (a.put o.dst v') w') : wpList P ops Q (o :: rest) a W := by
  have hlen : xs.length + ys.length ≤ 140737488355328 := Nat.le_trans (Nat.le_mul_of_pos_right _ hb) hl
  refine wpList_append_reads hgd s x t ho w0.heap.size e (.int k 0) 1 bytes ht hinfo rfl (by omega) v xs.length (nums k xs) u ys.length (nums k ys) hs hx HO (by simp [nums]) HR (nums_one _ _)
    (by unfold maxLen; omega) hl HB.size ?_
  intro v' w' hown hg
  refine h v' w' (by unfold Own; rw [nums_append, List.length_append]; exact hown) (Below.grown HB hg.grown HB.size fun q hq => (HO.lt q hq).1)

/-- 'append([]T(nil), u...)' over numbers. -/
theorem wpList_append_nil {W : World} (hgd : o.guard = none) (s x : Operand) (t e : TypeId) (k : IntKind) (bytes : Nat)
    (ho : o.op = .call { callee := .builtin .append, args := #[s, x], argTypes := #[t, t] }) (ht : P.underlying t = some (.slice e))
    (hinfo : (P.info? e).map (fun i => (i.zero, i.size, i.bytes)) = some (some (.int k 0), 1, bytes)) (hb : 0 < bytes)
    (u : Value) (ys : List Int) (hs : a.eval s = .slice none 0 0) (hx : a.eval x = u) (HR : Rd W k u ys)
    (hl : ys.length * bytes ≤ 140737488355328)
    (h : ∀ v' w', Own w' W.heap.size e k v' ys → Ext W w' → wpList P ops Q rest (a.put o.dst v') w') : wpList P ops Q (o :: rest) a W :=
  wpList_append_rd (w0 := W) hgd s x t e k bytes ho ht hinfo hb _ u [] ys hs hx (own_nil _ _ _ _) HR (Ext.refl W) (by simpa using hl) (by simpa using h)

/-- 'append(v, y)' over numbers: the goal's world bears the box of the one that is appended. -/
theorem wpList_append_num {w0 W : World} (hgd : o.guard = none) (s x : Operand) (t e : TypeId) (k : IntKind) (bytes : Nat)
    (ho : o.op = .call { callee := .builtin .append, args := #[s, x], argTypes := #[t, t] }) (ht : P.underlying t = some (.slice e))
    (hinfo : (P.info? e).map (fun i => (i.zero, i.size, i.bytes)) = some (some (.int k 0), 1, bytes)) (hb : 0 < bytes)
    (v : Value) (xs : List Int) (y : Int) (hs : a.eval s = v) (hx : a.eval x = .slice (some ⟨W.heap.size, 0, none⟩) 1 1) (HO : Own W w0.heap.size e k v xs) (HB : Ext w0 W)
    (hl : (xs.length + 1) * bytes ≤ 140737488355328)
    (h : ∀ v' w', Own w' w0.heap.size e k v' (xs ++ [y]) → Ext w0 w' → wpList P ops Q rest (a.put o.dst v') w') : wpList P ops Q (o :: rest) a (W.alloc (.cells #[.int k y] e)) :=
  wpList_append_rd (w0 := w0) (W := W.alloc (.cells #[.int k y] e)) hgd s x t e k bytes ho ht hinfo hb v _ xs [y] hs hx (HO.alloc _) (rd_new #[.int k y] e 1 (by decide)) (HB.alloc _) hl h

/-- 'append(v, y)' over numbers, v a row of whoever's own: what becomes of v. -/
theorem wpList_append_grew {W : World} (base : Nat) (hgd : o.guard = none) (s x : Operand) (t e : TypeId) (k : IntKind) (bytes : Nat)
    (ho : o.op = .call { callee := .builtin .append, args := #[s, x], argTypes := #[t, t] }) (ht : P.underlying t = some (.slice e))
    (hinfo : (P.info? e).map (fun i => (i.zero, i.size, i.bytes)) = some (some (.int k 0), 1, bytes)) (hb : 0 < bytes)
    (v : Value) (xs : List Int) (y : Int) (hs : a.eval s = v) (hx : a.eval x = .slice (some ⟨W.heap.size, 0, none⟩) 1 1) (HO : Own W base e k v xs) (hbase : base ≤ W.heap.size)
    (hl : (xs.length + 1) * bytes ≤ 140737488355328)
    (h : ∀ v' w', Own w' base e k v' (xs ++ [y]) → Grew W w' v v' → wpList P ops Q rest (a.put o.dst v') w') : wpList P ops Q (o :: rest) a (W.alloc (.cells #[.int k y] e)) := by
  have hlen : xs.length + 1 ≤ 140737488355328 := Nat.le_trans (Nat.le_mul_of_pos_right _ hb) hl
  refine wpList_append_reads hgd s x t ho base e (.int k 0) 1 bytes ht hinfo rfl (by omega) v xs.length (nums k xs) _ 1 [.int k y] hs hx (HO.alloc _) rfl (rd_new #[.int k y] e 1 (by decide)) (nums_one k [y])
    (by unfold maxLen; omega) hl (by simp; omega) ?_
  intro v' w' hown hg
  exact h v' w' (by unfold Own; rw [nums_append, List.length_append]; exact hown) ((Grew.alloc _ _ _).trans hg)
end


theorem rd_string {P : Program} {w : World} {src dst e : TypeId} {v : Value} {xs : List Int} (hs : P.underlying src = some (.slice e)) (he : P.underlying e = some (.int .u8)) (hd : P.underlying dst = some .string)
    (h : Rd w .u8 v xs) : (convert src dst v).run P w = .ok (.string (strOfNums xs)) w := by
  rcases Nat.eq_zero_or_pos xs.length with h0 | hp
  · obtain rfl : xs = [] := List.eq_nil_of_length_eq_zero h0
    obtain ⟨A, c, rfl, _⟩ := h
    cases A with
    | none => exact run_convert_bytes_nil w src e hs he 0 c dst hd
    | some ad =>
      rw [run_convert_bytes_string w src dst e _ _ c hs he hd]
      simp [Conv.bytesToString, loadCells, loadCellsFrom]
      rfl
  · obtain ⟨b, off, c, rfl, _, _, hc⟩ := h.pos hp
    exact run_convert_bytes_arg w src e hs he b off xs.length c xs rfl hc dst hd
theorem own_string {P : Program} {w : World} {base : Nat} {src dst e e' : TypeId} {v : Value} {xs : List Int} (hs : P.underlying src = some (.slice e)) (he : P.underlying e = some (.int .u8)) (hd : P.underlying dst = some .string)
    (h : Own w base e' .u8 v xs) : (convert src dst v).run P w = .ok (.string (strOfNums xs)) w := rd_string hs he hd (ownsRow.reads h)

theorem run_append_num {P : Program} (w : World) (base : Nat) (t ty e : TypeId) (k : IntKind) (bytes : Nat) (ht : P.underlying t = some (.slice e))
    (hinfo : (P.info? e).map (fun i => (i.zero, i.size, i.bytes)) = some (some (.int k 0), 1, bytes)) (hb : 0 < bytes)
    (v : Value) (xs : List Int) (HO : Own w base e k v xs) (u : Value) (ys : List Int) (HR : Rd w k u ys) (hl : (xs.length + ys.length) * bytes ≤ 140737488355328) (hbase : base ≤ w.heap.size) :
    ∃ v' w', (Builtin.append_ #[t, t] ty #[v, u]).run P w = .ok v' w' ∧ Own w' base e k v' (xs ++ ys) ∧ Grew w w' v v' := by
  have hlen : xs.length + ys.length ≤ 140737488355328 := Nat.le_trans (Nat.le_mul_of_pos_right _ hb) hl
  obtain ⟨v', w', h1, h2, h3⟩ := run_append_reads (P := P) w base t ty e (.int k 0) 1 bytes ht hinfo rfl (by omega) v xs.length (nums k xs) HO u ys.length (nums k ys) (by simp [nums]) HR (nums_one _ _) (by unfold maxLen; omega) hl hbase
  exact ⟨v', w', h1, by unfold Own; rw [nums_append, List.length_append]; exact h2, h3⟩


/-- A slice of numbers that came in. -/
theorem rd_of_ints {w : World} {x : Addr} {len cap : Nat} {k : IntKind} {zs : List Int} (hl : len ≤ cap) (hm : cap ≤ maxLen) (hz : zs.length = cap)
    (hcell : ∀ i, i < zs.length → w.cell? (x.add i) = some (.int k (zs.getD i 0))) (hwz : ∀ n ∈ zs, (Lit.int k n).wf = true) :
    ∃ xs, xs.length = len ∧ Rd w k (.slice (some x) len cap) xs ∧ ∀ n ∈ xs, (Lit.int k n).wf = true := by
  have hlen : (zs.take len).length = len := by rw [List.length_take]; omega
  refine ⟨zs.take len, hlen, ⟨some x, cap, by rw [hlen], by omega, hm, fun hne => ?_, fun e => by cases e⟩, fun n hn => hwz n (List.mem_of_mem_take hn)⟩
  have hpos : 0 < len := by
    rcases Nat.eq_zero_or_pos len with h | h
    · subst h; simp [nums] at hne
    · exact h
  have h0 := hcell 0 (by omega)
  have hadd0 : x.add 0 = x := by simp [Addr.add]
  rw [hadd0] at h0
  have hspot : x.spot = none := by
    cases hs : x.spot with
    | none => rfl
    | some q =>
      simp [World.cell?, hs] at h0
      split at h0 <;> cases h0
  obtain ⟨b, off, sp⟩ := x
  simp only at hspot
  subst hspot
  refine ⟨b, off, rfl, fun j u hu => ?_⟩
  have hj : j < len := by
    have := (List.getElem?_eq_some_iff.1 hu).1
    rw [nums_length, hlen] at this
    exact this
  have := hcell j (by omega)
  rw [Addr.add_lit] at this
  rw [this, ← hu, nums_get _ _ _ (by omega)]
  congr 2
  simp [List.getD_eq_getElem?_getD, List.getElem?_take, hj]


/-- The front of a slice that is read. -/
theorem rd_left {w : World} {k : IntKind} {A : Option Addr} {n c : Nat} {xs ys : List Int} (h : Rd w k (.slice A n c) (xs ++ ys)) : Rd w k (.slice A xs.length c) xs := by
  obtain ⟨A', c', he, h1, h2, h3, h4⟩ := h
  injection he with e1 e2 e3
  subst e1 e3
  rw [List.length_append] at e2 h1 h4
  refine ⟨A, c, rfl, by omega, h2, fun hne => ?_, fun e => ⟨by have := h4 e; omega, (h4 e).2⟩⟩
  obtain ⟨b, off, ha, hc⟩ := h3 (by rw [nums_append]; simp [hne])
  refine ⟨b, off, ha, fun j u hu => hc j u ?_⟩
  rw [nums_append, List.getElem?_append_left (List.getElem?_eq_some_iff.1 hu).1]
  exact hu

/-- The back of a slice that is read. -/
theorem rd_right {w : World} {k : IntKind} {b off n c : Nat} {xs ys : List Int} (h : Rd w k (.slice (some ⟨b, off, none⟩) n c) (xs ++ ys)) :
    Rd w k (.slice (some ⟨b, off + xs.length, none⟩) ys.length (c - xs.length)) ys := by
  obtain ⟨A', c', he, h1, h2, h3, h4⟩ := h
  injection he with e1 e2 e3
  subst e1 e3
  rw [List.length_append] at e2 h1
  refine ⟨_, _, rfl, by omega, by omega, fun hne => ?_, fun e => by cases e⟩
  obtain ⟨b', off', ha, hc⟩ := h3 (by rw [nums_append]; simp [hne])
  cases ha
  refine ⟨_, _, rfl, fun j u hu => ?_⟩
  have := hc (xs.length + j) u (by rw [nums_append, List.getElem?_append_right (by rw [nums_length]; omega), nums_length]; simpa using hu)
  rwa [Nat.add_assoc]


/-- The length spelled otherwise. -/
theorem Own.len {w : World} {base : Nat} {e : TypeId} {k : IntKind} {A : Option Addr} {n m c : Nat} {xs : List Int} (h : Own w base e k (.slice A n c) xs) (hn : n = m) : Own w base e k (.slice A m c) xs := hn ▸ h
theorem Rd.len {w : World} {k : IntKind} {A : Option Addr} {n m c : Nat} {xs : List Int} (h : Rd w k (.slice A n c) xs) (hn : n = m) : Rd w k (.slice A m c) xs := hn ▸ h


theorem Rd.at {w : World} {k : IntKind} {b off n c : Nat} {xs : List Int} (h : Rd w k (.slice (some ⟨b, off, none⟩) n c) xs) (j : Nat) (hj : j < xs.length) : w.cell? ⟨b, off + j, none⟩ = some (.int k (xs.getD j 0)) := by
  obtain ⟨A, c', he, h1, h2, h3, h4⟩ := h
  injection he with e1 e2 e3
  obtain ⟨b', off', ha, hc⟩ := h3 (by intro e; rw [← nums_length k, e] at hj; simp at hj)
  rw [← e1] at ha
  cases ha
  exact hc j _ (nums_get k xs j hj)


/-- A slice of bools that is read. -/
abbrev RdB (w : World) (v : Value) (bs : List Bool) : Prop := RdC w v bs.length (bs.map Value.bool)

theorem RdB.at {w : World} {b off n c : Nat} {bs : List Bool} (h : RdB w (.slice (some ⟨b, off, none⟩) n c) bs) (j : Nat) (hj : j < bs.length) : w.cell? ⟨b, off + j, none⟩ = some (.bool (bs.getD j false)) := by
  obtain ⟨A, c', he, h1, h2, h3, h4⟩ := h
  injection he with e1 e2 e3
  obtain ⟨b', off', ha, hc⟩ := h3 (by intro e; rw [← List.length_map (f := Value.bool), e] at hj; simp at hj)
  rw [← e1] at ha
  cases ha
  exact hc j _ (by simp [List.getElem?_eq_getElem hj, List.getD_eq_getElem?_getD])

theorem RdB.pos {w : World} {v : Value} {bs : List Bool} (h : RdB w v bs) (hp : 0 < bs.length) :
    ∃ b off c, v = .slice (some ⟨b, off, none⟩) bs.length c ∧ bs.length ≤ c ∧ c ≤ maxLen ∧ ∀ j, j < bs.length → w.cell? ⟨b, off + j, none⟩ = some (.bool (bs.getD j false)) := by
  obtain ⟨A, c, rfl, h1, h2, h3, h4⟩ := h
  obtain ⟨b, off, rfl, hc⟩ := h3 (by intro e; rw [← List.length_map (f := Value.bool), e] at hp; simp at hp)
  exact ⟨b, off, c, rfl, h1, h2, fun j hj => hc j _ (by simp [List.getElem?_eq_getElem hj, List.getD_eq_getElem?_getD])⟩

/-- A slice of bools that came in. -/
theorem rd_of_bools {w : World} {x : Addr} {len cap : Nat} {B : Nat → Bool} (hl : len ≤ cap) (hm : cap ≤ maxLen) (hcell : ∀ i, i < cap → w.cell? (x.add i) = some (.bool (B i))) :
    ∃ xs, xs.length = len ∧ RdB w (.slice (some x) len cap) xs := by
  have hlen : ((List.range len).map B).length = len := by simp
  refine ⟨(List.range len).map B, hlen, some x, cap, by rw [hlen], by omega, hm, fun hne => ?_, fun e => by cases e⟩
  have hpos : 0 < len := by
    rcases Nat.eq_zero_or_pos len with h | h
    · subst h; simp at hne
    · exact h
  have h0 := hcell 0 (by omega)
  have hadd0 : x.add 0 = x := by simp [Addr.add]
  rw [hadd0] at h0
  have hspot : x.spot = none := by
    cases hs : x.spot with
    | none => rfl
    | some q =>
      simp [World.cell?, hs] at h0
      split at h0 <;> cases h0
  obtain ⟨b, off, sp⟩ := x
  simp only at hspot
  subst hspot
  refine ⟨b, off, rfl, fun j u hu => ?_⟩
  have hj : j < len := by
    have := (List.getElem?_eq_some_iff.1 hu).1
    simpa using this
  have := hcell j (by omega)
  rw [Addr.add_lit] at this
  rw [this, ← hu]
  simp [hj]

end Go.Proofs.Ytmbjebdkhcpclaa
