/-
  A slice that 'make' lays, and stores into it.
-/
import Derived.Test.YtmbjebdkhcpclaaLb
import Derived.Test.YtmbjebdkhcpclaaOp
set_option linter.unusedSimpArgs false
set_option linter.unusedVariables false
namespace Go.Proofs.Ytmbjebdkhcpclaa
open Go.RowKit

/-- A slice of bools that the call owns. -/
abbrev OwnB (w : World) (base : Nat) (e : TypeId) (v : Value) (bs : List Bool) : Prop := w.ownsRow base e 1 v bs.length (bs.map Value.bool)

theorem madeCells_one (z : Value) (n : Nat) (h : z.cells = #[z]) : (madeCells z.cells (n * 1)).toList = List.replicate n z := by
  rw [h, Nat.mul_one, toList_madeCells_one]

section
variable {P : Program} {ops : Array Oper} {rest : List Oper} {o : Oper} {a : Act} {Q : Exit → Act → World → Prop} {w : World}

/-- 'make([]T, n)' of numbers. -/
theorem wpList_make_nums (hg : o.guard = none) (l c : Operand) (t e : TypeId) (k : IntKind) (bytes : Nat) (hop : o.op = Op.makeSlice t l c) (ht : P.underlying t = some (.slice e))
    (hinfo : (P.info? e).map (fun i => (i.zero, i.size, i.bytes)) = some (some (.int k 0), 1, bytes)) (kl kc : IntKind) (L C : Int) (n : Nat) (hl : a.eval l = .int kl L) (hc : a.eval c = .int kc C) (hL : L = (n : Int)) (hC : C = (n : Int))
    (hb : bytes * n ≤ 281474976710656) (hm : n ≤ 140737488355328)
    (h : ∀ w', Own w' w.heap.size e k (.slice (some ⟨w.heap.size, 0, none⟩) n n) (List.replicate n 0) → Ext w w' → wpList P ops Q rest (a.put o.dst (.slice (some ⟨w.heap.size, 0, none⟩) n n)) w') : wpList P ops Q (o :: rest) a w := by
  obtain ⟨i, hi, hz, hs, hby⟩ := info_parts hinfo
  refine wpList_make_full w hg l c t hop w.heap.size e i (.int k 0) 1 ht hi hz hs kl kc L C n hl hc hL hC (by rw [hby]; exact hb) (by unfold maxLen; omega) (Nat.le_refl _) fun w' ho hgr => ?_
  refine h w' ?_ ((Ext.refl w).grown hgr)
  rw [madeCells_one _ _ rfl] at ho
  unfold Own nums
  rw [List.map_replicate, List.length_replicate]
  exact ho

/-- 'make([]bool, n)'. -/
theorem wpList_make_bools (hg : o.guard = none) (l c : Operand) (t e : TypeId) (bytes : Nat) (hop : o.op = Op.makeSlice t l c) (ht : P.underlying t = some (.slice e))
    (hinfo : (P.info? e).map (fun i => (i.zero, i.size, i.bytes)) = some (some (.bool false), 1, bytes)) (kl kc : IntKind) (L C : Int) (n : Nat) (hl : a.eval l = .int kl L) (hc : a.eval c = .int kc C) (hL : L = (n : Int)) (hC : C = (n : Int))
    (hb : bytes * n ≤ 281474976710656) (hm : n ≤ 140737488355328)
    (h : ∀ w', OwnB w' w.heap.size e (.slice (some ⟨w.heap.size, 0, none⟩) n n) (List.replicate n false) → Ext w w' → wpList P ops Q rest (a.put o.dst (.slice (some ⟨w.heap.size, 0, none⟩) n n)) w') : wpList P ops Q (o :: rest) a w := by
  obtain ⟨i, hi, hz, hs, hby⟩ := info_parts hinfo
  refine wpList_make_full w hg l c t hop w.heap.size e i (.bool false) 1 ht hi hz hs kl kc L C n hl hc hL hC (by rw [hby]; exact hb) (by unfold maxLen; omega) (Nat.le_refl _) fun w' ho hgr => ?_
  refine h w' ?_ ((Ext.refl w).grown hgr)
  rw [madeCells_one _ _ rfl] at ho
  unfold OwnB
  rw [List.map_replicate, List.length_replicate]
  exact ho
end

section
variable {P : Program} {σ : Nat → Value} {o : Oper} {w : World}
theorem run_make_nums (t e : TypeId) (k : IntKind) (bytes : Nat) (ht : P.underlying t = some (.slice e)) (hinfo : (P.info? e).map (fun i => (i.zero, i.size, i.bytes)) = some (some (.int k 0), 1, bytes)) (kl kc : IntKind) (n : Nat)
    (hb : bytes * n ≤ 281474976710656) (hm : n ≤ 140737488355328) :
    ∃ w', (Instr.makeSlice t (.int kl n) (.int kc n)).run P w = .ok (.slice (some ⟨w.heap.size, 0, none⟩) n n) w' ∧ Own w' w.heap.size e k (.slice (some ⟨w.heap.size, 0, none⟩) n n) (List.replicate n 0) ∧ Ext w w' := by
  obtain ⟨i, hi, hz, hs, hby⟩ := info_parts hinfo
  obtain ⟨w', hrun, ho, hgr⟩ := run_make_full (P := P) w w.heap.size t e i (.int k 0) 1 ht hi hz hs kl kc n (by rw [hby]; exact hb) (by unfold maxLen; omega) (Nat.le_refl _)
  refine ⟨w', hrun, ?_, (Ext.refl w).grown hgr⟩
  rw [madeCells_one _ _ rfl] at ho
  unfold Own nums
  rw [List.map_replicate, List.length_replicate]
  exact ho
theorem run_make_bools (t e : TypeId) (bytes : Nat) (ht : P.underlying t = some (.slice e)) (hinfo : (P.info? e).map (fun i => (i.zero, i.size, i.bytes)) = some (some (.bool false), 1, bytes)) (kl kc : IntKind) (n : Nat)
    (hb : bytes * n ≤ 281474976710656) (hm : n ≤ 140737488355328) :
    ∃ w', (Instr.makeSlice t (.int kl n) (.int kc n)).run P w = .ok (.slice (some ⟨w.heap.size, 0, none⟩) n n) w' ∧ OwnB w' w.heap.size e (.slice (some ⟨w.heap.size, 0, none⟩) n n) (List.replicate n false) ∧ Ext w w' := by
  obtain ⟨i, hi, hz, hs, hby⟩ := info_parts hinfo
  obtain ⟨w', hrun, ho, hgr⟩ := run_make_full (P := P) w w.heap.size t e i (.bool false) 1 ht hi hz hs kl kc n (by rw [hby]; exact hb) (by unfold maxLen; omega) (Nat.le_refl _)
  refine ⟨w', hrun, ?_, (Ext.refl w).grown hgr⟩
  rw [madeCells_one _ _ rfl] at ho
  unfold OwnB
  rw [List.map_replicate, List.length_replicate]
  exact ho
theorem op_make {t : TypeId} {l c : Operand} {u u' v : Value} {w' : World} (ho : o.op = .makeSlice t l c) (hl : slotEval σ l = u) (hc : slotEval σ c = u') (hr : (Instr.makeSlice t u u').run P w = .ok v w') : (execOp (slotEval σ) o).run P w = .ok (.value v) w' := by
  simp [execOp, ho, hl, hc, hr, Result.andThen]
end

/-- What a function gives, laid over the front of a row of noughts. -/
def fillTo {α : Type} (z : α) (f : Nat → α) (n i : Nat) : List α := (List.range n).map fun j => if j < i then f j else z
theorem fillTo_length {α : Type} (z : α) (f : Nat → α) (n i : Nat) : (fillTo z f n i).length = n := by simp [fillTo]
theorem fillTo_zero {α : Type} (z : α) (f : Nat → α) (n : Nat) : fillTo z f n 0 = List.replicate n z := by
  apply List.ext_getElem
  · simp [fillTo]
  · intro j h1 h2; simp [fillTo]
theorem fillTo_set {α : Type} (z : α) (f : Nat → α) (n i : Nat) : (fillTo z f n i).set i (f i) = fillTo z f n (i + 1) := by
  apply List.ext_getElem
  · simp [fillTo]
  · intro j h1 h2
    simp only [fillTo, List.getElem_set, List.getElem_map, List.getElem_range]
    by_cases h : i = j
    · subst h; simp
    · rw [if_neg h]
      by_cases h' : j < i
      · rw [if_pos h', if_pos (by omega)]
      · rw [if_neg h', if_neg (by omega)]
theorem fillTo_all {α : Type} (z : α) (f : Nat → α) (n : Nat) : fillTo z f n n = (List.range n).map f := by
  apply List.map_congr_left
  intro j hj
  rw [if_pos (List.mem_range.1 hj)]
theorem fillTo_get {α : Type} (z : α) (f : Nat → α) (n i j : Nat) (h : j < n) (d : α) : (fillTo z f n i).getD j d = if j < i then f j else z := by
  simp [fillTo, List.getD_eq_getElem?_getD, List.getElem?_map, List.getElem?_range h]

theorem fillTo_same {α : Type} (z : α) (f : Nat → α) (n i : Nat) (h : f i = z) : fillTo z f n (i + 1) = fillTo z f n i := by
  unfold fillTo
  apply List.map_congr_left
  intro j hj
  by_cases h1 : j < i
  · rw [if_pos h1, if_pos (by omega)]
  · rw [if_neg h1]
    by_cases h2 : j < i + 1
    · rw [if_pos h2, show j = i by omega, h]
    · rw [if_neg h2]

/-- A store into an own row of numbers. -/
theorem Own.store {w : World} {base g n c : Nat} {e : TypeId} {k : IntKind} {xs : List Int} (h : Own w base e k (.slice (some ⟨g, 0, none⟩) n c) xs) (hn : n = xs.length) (j : Nat) (u : Int) :
    Own (w.setCell ⟨g, j, none⟩ (.int k u)) base e k (.slice (some ⟨g, 0, none⟩) n c) (xs.set j u) := by
  subst hn
  have := (World.ownsRow.stored h j (.int k u)).1
  unfold Own nums
  rw [List.map_set, List.length_set]
  exact this
theorem OwnB.store {w : World} {base g n c : Nat} {e : TypeId} {bs : List Bool} (h : OwnB w base e (.slice (some ⟨g, 0, none⟩) n c) bs) (hn : n = bs.length) (j : Nat) (u : Bool) :
    OwnB (w.setCell ⟨g, j, none⟩ (.bool u)) base e (.slice (some ⟨g, 0, none⟩) n c) (bs.set j u) := by
  subst hn
  have := (World.ownsRow.stored h j (.bool u)).1
  unfold OwnB
  rw [List.map_set, List.length_set]
  exact this
theorem Ext.set {w0 w : World} (h : Ext w0 w) {a : Addr} (hb : w0.heap.size ≤ a.block) (u : Value) : Ext w0 (w.setCell a u) := Below.setCell h (p := a) hb u

/-- An own row where another block is written. -/
theorem ownsRow.other {w : World} {base g n m c size : Nat} {e : TypeId} {cs : List Value} (h : w.ownsRow base e size (.slice (some ⟨g, 0, none⟩) n c) m cs) {a : Addr} (hne : g ≠ a.block) (u : Value) : (w.setCell a u).ownsRow base e size (.slice (some ⟨g, 0, none⟩) n c) m cs := by
  refine ⟨h.1, ?_⟩
  rcases h.2 with h2 | ⟨g', cap, cur, hv, hb, hg, rest⟩
  · exact .inl h2
  · refine .inr ⟨g', cap, cur, hv, hb, ?_, rest⟩
    injection hv with e1 e2 e3
    injection e1 with e1
    injection e1 with e1 _ _
    rw [Below.heap_setCell w a u g' (by rw [← e1]; exact hne)]
    exact hg

theorem OwnB.pos {w : World} {base : Nat} {e : TypeId} {v : Value} {bs : List Bool} (h : OwnB w base e v bs) (hp : 0 < bs.length) :
    ∃ g c, v = .slice (some ⟨g, 0, none⟩) bs.length c ∧ bs.length ≤ c ∧ c ≤ maxLen ∧ base ≤ g ∧ ∀ j, j < bs.length → w.cell? ⟨g, j, none⟩ = some (.bool (bs.getD j false)) ∧ w.frozen? ⟨g, j, none⟩ = false := by
  rcases h.2 with ⟨rfl, h0⟩ | ⟨g, cap, cur, rfl, hb, hg, hnc, hcm, hcs, ht⟩
  · omega
  · refine ⟨g, cap, rfl, hnc, hcm, hb, fun j hj => ⟨?_, ?_⟩⟩
    · have := h.cells (g := g) rfl j (.bool (bs.getD j false)) (by simp [List.getElem?_eq_getElem hj, List.getD_eq_getElem?_getD])
      rwa [addr_add] at this
    · simp [World.frozen?, hg]
theorem Own.at {w : World} {base g n c : Nat} {e : TypeId} {k : IntKind} {xs : List Int} (h : Own w base e k (.slice (some ⟨g, 0, none⟩) n c) xs) (j : Nat) (hj : j < xs.length) : w.cell? ⟨g, j, none⟩ = some (.int k (xs.getD j 0)) ∧ w.frozen? ⟨g, j, none⟩ = false := by
  obtain ⟨g', c', he, _, _, _, hc⟩ := Own.pos h (by omega)
  injection he with e1 _ _
  injection e1 with e1
  injection e1 with e1 _ _
  subst e1
  exact hc j hj
theorem OwnB.at {w : World} {base g n c : Nat} {e : TypeId} {bs : List Bool} (h : OwnB w base e (.slice (some ⟨g, 0, none⟩) n c) bs) (j : Nat) (hj : j < bs.length) : w.cell? ⟨g, j, none⟩ = some (.bool (bs.getD j false)) ∧ w.frozen? ⟨g, j, none⟩ = false := by
  obtain ⟨g', c', he, _, _, _, hc⟩ := OwnB.pos h (by omega)
  injection he with e1 _ _
  injection e1 with e1
  injection e1 with e1 _ _
  subst e1
  exact hc j hj
end Go.Proofs.Ytmbjebdkhcpclaa
