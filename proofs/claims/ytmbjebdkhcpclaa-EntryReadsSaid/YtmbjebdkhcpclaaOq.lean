/-
  Operations of the Entry laws, each by itself.
-/
import Derived.Test.YtmbjebdkhcpclaaRt
import Derived.Test.YtmbjebdkhcpclaaEPl
import Derived.Test.YtmbjebdkhcpclaaOp
set_option linter.unusedSimpArgs false
set_option linter.unusedVariables false
namespace Go.Proofs.Ytmbjebdkhcpclaa
open Go.RowKit

section
variable {P : Program} {σ : Nat → Value} {ρ : Operand → Value} {o : Oper} {w : World}
theorem op_load_row (ty : TypeId) (x : Operand) (ho : o.op = .load ty x) (g : Nat) (hx : slotEval σ x = .pointer (some ⟨g, 0, none⟩)) (t : TypeId) (cs : Array Value) (fr : Nat × Nat) (d : TypeDesc) (hg : w.heap[g]? = some (.cells cs t fr))
    (hu : P.underlying ty = some d) (hd : (match d with | .struct _ | .array _ _ => true | _ => false) = true) (hi : (P.info? ty).map (·.size) = some cs.size) : (execOp (slotEval σ) o).run P w = .ok (.value (.agg cs)) w := by
  unfold execOp
  simp only [ho, hx, Instr.loadAt, Instr.sureAddr, Sem.run_bind, Sem.run_pure, Result.andThen_ok, run_loadVar_row w g t ty cs fr d hg hu hd hi]
theorem op_build (t : TypeId) (parts : Array (Nat × Operand)) (ho : o.op = .build t parts) (cells : Array Value) (hf : P.built t (parts.map fun (i, x) => (i, slotEval σ x)).toList = some cells) : (execOp (slotEval σ) o).run P w = .ok (.value (.agg cells)) w := by
  unfold execOp
  simp only [ho, Sem.run_bind, run_build w t _ cells hf, Result.andThen_ok]
  rfl
theorem op_eql_text {t : TypeId} {x y : Operand} {u : TypeId} {s : ByteArray} (ho : o.op = .binOp .eql t x y u) (ht : P.underlying t = some .string) (hx : slotEval σ x = .string s) (hy : slotEval σ y = .string s) : (execOp (slotEval σ) o).run P w = .ok (.value (.bool true)) w :=
  op_binOp ho (by rw [eql_string ht hx hy, BEq.rfl])
end
section
variable {σ : Nat → Value} {ρ : Operand → Value} {o : Oper} {w : World}
theorem op_load_slot {x : Operand} {b : Nat} {k l s : Int} {d : Nat → Int} (ho : o.op = .load 24 x) (hx : slotEval σ x = .pointer (some ⟨b, 0, none⟩)) (h : SlotAt w b k l s d) : (execOp (slotEval σ) o).run Try.prog w = .ok (.value (slotVal k l s d)) w :=
  op_load_row 24 x ho b hx 24 (slotCells k l s d) (0, 0) _ h Try.underlying24 rfl (slot_info ..)
theorem op_load_head {x : Operand} {b : Nat} {k l s u : Int} (ho : o.op = .load 30 x) (hx : slotEval σ x = .pointer (some ⟨b, 0, none⟩)) (h : HeadAt w b k l s u) : (execOp (slotEval σ) o).run Try.prog w = .ok (.value (headVal k l s u)) w :=
  op_load_row 30 x ho b hx 30 (headCells k l s u) (0, 0) _ h Try.underlying30 rfl (head_info ..)
theorem op_alloc_slot (ho : o.op = .alloc 24) : (execOp ρ o).run Try.prog w = .ok (.value (.pointer (some ⟨w.heap.size, 0, none⟩))) (w.alloc (.cells (slotCells 0 0 0 (fun _ => 0)) 24)) := by
  unfold execOp
  simp only [ho]
  go_simp
theorem op_alloc_head (ho : o.op = .alloc 30) : (execOp ρ o).run Try.prog w = .ok (.value (.pointer (some ⟨w.heap.size, 0, none⟩))) (w.alloc (.cells (headCells 0 0 0 0) 30)) := by
  unfold execOp
  simp only [ho]
  go_simp
theorem built_head (a b c e : Int) : Try.prog.built 30 [(0, .int .i64 a), (1, .int .i64 b), (2, .int .i64 c), (3, .int .i64 e)] = some (headCells a b c e) := by kernel_rfl
theorem op_eql_slot {x y : Operand} {u : TypeId} {k l s : Int} {d : Nat → Int} {k' l' s' : Int} {d' : Nat → Int} (ho : o.op = .binOp .eql 24 x y u) (hx : slotEval σ x = slotVal k l s d) (hy : slotEval σ y = slotVal k' l' s' d') :
    (execOp (slotEval σ) o).run Try.prog w = .ok (.value (.bool (slotB k l s d k' l' s' d'))) w :=
  op_binOp ho (by rw [hx, hy, Sem.run_bind, run_eqGuard_agg w .eql 24 x y _ _ (by kernel_rfl), Result.andThen_ok, run_eql_struct, eq_slot, Result.andThen_ok])
theorem op_eql_head {x y : Operand} {u : TypeId} {k l s t : Int} {k' l' s' t' : Int} (ho : o.op = .binOp .eql 30 x y u) (hx : slotEval σ x = headVal k l s t) (hy : slotEval σ y = headVal k' l' s' t') :
    (execOp (slotEval σ) o).run Try.prog w = .ok (.value (.bool (headB k l s t k' l' s' t'))) w :=
  op_binOp ho (by rw [hx, hy, Sem.run_bind, run_eqGuard_agg w .eql 30 x y _ _ (by kernel_rfl), Result.andThen_ok, run_eql_struct, eq_head, Result.andThen_ok])
end
theorem slotB_iff (k l s : Int) (d : Nat → Int) (k' l' s' : Int) (d' : Nat → Int) : slotB k l s d k' l' s' d' = true ↔ k = k' ∧ l = l' ∧ s = s' ∧ ∀ j, j < 16 → d j = d' j := by
  simp [slotB, and_assoc]
theorem headB_iff (x y z u x' y' z' u' : Int) : headB x y z u x' y' z' u' = true ↔ x = x' ∧ y = y' ∧ z = z' ∧ u = u' := by
  simp [headB, and_assoc]
/-- Rows of bytes that are the same text are the same. -/
theorem strOfNums_inj (xs ys : List Int) (hx : ∀ x ∈ xs, 0 ≤ x ∧ x < 256) (hy : ∀ x ∈ ys, 0 ≤ x ∧ x < 256) (h : (strOfNums xs).toList = (strOfNums ys).toList) : xs = ys := by
  rw [ByteArray.toList_eq, ByteArray.toList_eq, strOfNums_data, strOfNums_data] at h
  induction xs generalizing ys with
  | nil => cases ys with
    | nil => rfl
    | cons y ys => simp at h
  | cons x xs ih =>
    cases ys with
    | nil => simp at h
    | cons y ys =>
      simp only [List.map_cons, List.cons.injEq] at h
      have h1 := hx x (List.mem_cons_self ..)
      have h2 := hy y (List.mem_cons_self ..)
      have e := congrArg UInt8.toNat h.1
      rw [UInt8.toNat_ofNat', UInt8.toNat_ofNat'] at e
      have e2 : x = y := by omega
      rw [e2, ih ys (fun q hq => hx q (List.mem_cons_of_mem _ hq)) (fun q hq => hy q (List.mem_cons_of_mem _ hq)) h.2]
end Go.Proofs.Ytmbjebdkhcpclaa
