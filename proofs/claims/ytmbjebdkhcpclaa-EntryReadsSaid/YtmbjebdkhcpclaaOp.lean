/-
  What single operations do, of their operands' values alone.
-/
import Derived.Test.YtmbjebdkhcpclaaRs
set_option linter.unusedSimpArgs false
set_option linter.unusedVariables false
namespace Go.Proofs.Ytmbjebdkhcpclaa
open Go.RowKit
section
variable {P : Program} {σ : Nat → Value} {o : Oper} {w : World}

theorem op_move {x : Operand} (ho : o.op = .move x) : (execOp (slotEval σ) o).run P w = .ok (.value (slotEval σ x)) w := by simp [execOp, ho]
theorem op_assign {x : Operand} (ho : o.op = .assign x) : (execOp (slotEval σ) o).run P w = .ok (.value (slotEval σ x)) w := by simp [execOp, ho]
theorem op_pick {c x y : Operand} {b : Bool} (ho : o.op = .pick c x y) (hc : slotEval σ c = .bool b) : (execOp (slotEval σ) o).run P w = .ok (.value (if b then slotEval σ x else slotEval σ y)) w := by
  simp [execOp, ho, hc, asBool]
theorem op_convert {s d : TypeId} {x : Operand} {v : Value} (ho : o.op = .convert s d x) (hr : (convert s d (slotEval σ x)).run P w = .ok v w) : (execOp (slotEval σ) o).run P w = .ok (.value v) w := by
  simp [execOp, ho, hr]
theorem op_binOp {b : BinOp} {t u : TypeId} {x y : Operand} {v : Value} (ho : o.op = .binOp b t x y u) (hr : (do eqGuard b t x y (slotEval σ x) (slotEval σ y); binOp b t (slotEval σ x) (slotEval σ y) : Sem Value).run P w = .ok v w) :
    (execOp (slotEval σ) o).run P w = .ok (.value v) w := by
  have : (execOp (slotEval σ) o) = (do let v ← (do eqGuard b t x y (slotEval σ x) (slotEval σ y); binOp b t (slotEval σ x) (slotEval σ y) : Sem Value); pure (.value v)) := by simp [execOp, ho]
  rw [this, Sem.run_bind, hr]
  rfl
theorem op_call {f : FuncId} {fn : Func} {args : Array Operand} {tys : Array TypeId} (ho : o.op = .call { callee := .value (.func f), args, argTypes := tys }) (hf : P.funcs[f]? = some fn)
    (hn : (fn.name == "runtime.NumGoroutine") = false) (hb : fn.body.isNone = false) : (execOp (slotEval σ) o).run P w = .ok (.enter f (args.map (slotEval σ))) w := by
  simp only [execOp, ho, resolve, slotEval, Deferred.ofValue]
  simp only [Array.empty_append, Array.append_empty, invoke, callFunc, Sem.run_bind, Sem.run_pure, Result.andThen_ok, run_program, hf, hn, hb, Bool.false_eq_true, if_false]

theorem op_call0 {f : FuncId} {fn : Func} {tys : Array TypeId} (ho : o.op = .call { callee := .value (.func f), args := #[], argTypes := tys }) (hf : P.funcs[f]? = some fn)
    (hn : (fn.name == "runtime.NumGoroutine") = false) (hb : fn.body.isNone = false) : (execOp (slotEval σ) o).run P w = .ok (.enter f #[]) w := by
  rw [op_call ho hf hn hb]
  simp []
theorem op_call1 {f : FuncId} {fn : Func} {x0 : Operand} {v0 : Value} {tys : Array TypeId} (ho : o.op = .call { callee := .value (.func f), args := #[x0], argTypes := tys }) (hf : P.funcs[f]? = some fn)
    (hn : (fn.name == "runtime.NumGoroutine") = false) (hb : fn.body.isNone = false) (h0 : slotEval σ x0 = v0) : (execOp (slotEval σ) o).run P w = .ok (.enter f #[v0]) w := by
  rw [op_call ho hf hn hb]
  simp [h0]
theorem op_call2 {f : FuncId} {fn : Func} {x0 x1 : Operand} {v0 v1 : Value} {tys : Array TypeId} (ho : o.op = .call { callee := .value (.func f), args := #[x0, x1], argTypes := tys }) (hf : P.funcs[f]? = some fn)
    (hn : (fn.name == "runtime.NumGoroutine") = false) (hb : fn.body.isNone = false) (h0 : slotEval σ x0 = v0) (h1 : slotEval σ x1 = v1) : (execOp (slotEval σ) o).run P w = .ok (.enter f #[v0, v1]) w := by
  rw [op_call ho hf hn hb]
  simp [h0, h1]
theorem op_call3 {f : FuncId} {fn : Func} {x0 x1 x2 : Operand} {v0 v1 v2 : Value} {tys : Array TypeId} (ho : o.op = .call { callee := .value (.func f), args := #[x0, x1, x2], argTypes := tys }) (hf : P.funcs[f]? = some fn)
    (hn : (fn.name == "runtime.NumGoroutine") = false) (hb : fn.body.isNone = false) (h0 : slotEval σ x0 = v0) (h1 : slotEval σ x1 = v1) (h2 : slotEval σ x2 = v2) : (execOp (slotEval σ) o).run P w = .ok (.enter f #[v0, v1, v2]) w := by
  rw [op_call ho hf hn hb]
  simp [h0, h1, h2]
theorem op_call4 {f : FuncId} {fn : Func} {x0 x1 x2 x3 : Operand} {v0 v1 v2 v3 : Value} {tys : Array TypeId} (ho : o.op = .call { callee := .value (.func f), args := #[x0, x1, x2, x3], argTypes := tys }) (hf : P.funcs[f]? = some fn)
    (hn : (fn.name == "runtime.NumGoroutine") = false) (hb : fn.body.isNone = false) (h0 : slotEval σ x0 = v0) (h1 : slotEval σ x1 = v1) (h2 : slotEval σ x2 = v2) (h3 : slotEval σ x3 = v3) : (execOp (slotEval σ) o).run P w = .ok (.enter f #[v0, v1, v2, v3]) w := by
  rw [op_call ho hf hn hb]
  simp [h0, h1, h2, h3]
theorem op_call5 {f : FuncId} {fn : Func} {x0 x1 x2 x3 x4 : Operand} {v0 v1 v2 v3 v4 : Value} {tys : Array TypeId} (ho : o.op = .call { callee := .value (.func f), args := #[x0, x1, x2, x3, x4], argTypes := tys }) (hf : P.funcs[f]? = some fn)
    (hn : (fn.name == "runtime.NumGoroutine") = false) (hb : fn.body.isNone = false) (h0 : slotEval σ x0 = v0) (h1 : slotEval σ x1 = v1) (h2 : slotEval σ x2 = v2) (h3 : slotEval σ x3 = v3) (h4 : slotEval σ x4 = v4) : (execOp (slotEval σ) o).run P w = .ok (.enter f #[v0, v1, v2, v3, v4]) w := by
  rw [op_call ho hf hn hb]
  simp [h0, h1, h2, h3, h4]
theorem op_call6 {f : FuncId} {fn : Func} {x0 x1 x2 x3 x4 x5 : Operand} {v0 v1 v2 v3 v4 v5 : Value} {tys : Array TypeId} (ho : o.op = .call { callee := .value (.func f), args := #[x0, x1, x2, x3, x4, x5], argTypes := tys }) (hf : P.funcs[f]? = some fn)
    (hn : (fn.name == "runtime.NumGoroutine") = false) (hb : fn.body.isNone = false) (h0 : slotEval σ x0 = v0) (h1 : slotEval σ x1 = v1) (h2 : slotEval σ x2 = v2) (h3 : slotEval σ x3 = v3) (h4 : slotEval σ x4 = v4) (h5 : slotEval σ x5 = v5) : (execOp (slotEval σ) o).run P w = .ok (.enter f #[v0, v1, v2, v3, v4, v5]) w := by
  rw [op_call ho hf hn hb]
  simp [h0, h1, h2, h3, h4, h5]
theorem op_append {x y : Operand} {t : TypeId} {v : Value} {w' : World} (ho : o.op = .call { callee := .builtin .append, args := #[x, y], argTypes := #[t, t] })
    {u u' : Value} (hx : slotEval σ x = u) (hy : slotEval σ y = u') (hr : (Builtin.append_ #[t, t] o.type #[u, u']).run P w = .ok v w') : (execOp (slotEval σ) o).run P w = .ok (.value v) w' := by
  simp only [execOp, ho, resolve, invoke, builtin, Sem.run_bind, Sem.run_pure, Result.andThen_ok, List.map_toArray, List.map_cons, List.map_nil, hx, hy, hr]
theorem op_lit0 {t e : TypeId} {z : Value} {size bytes : Nat} (ho : o.op = .buildSlice t 0 #[]) (ht : P.underlying t = some (.slice e)) (hinfo : (P.info? e).map (fun i => (i.zero, i.size, i.bytes)) = some (some z, size, bytes)) :
    (execOp (slotEval σ) o).run P w = .ok (.value (.slice (some ⟨w.heap.size, 0, none⟩) 0 0)) (w.alloc (.cells #[] e)) := by
  obtain ⟨i, hi, _⟩ := info_parts hinfo
  simp [execOp, ho, go_sem, run_underlying ht, sizeOf, typeInfo, hi]

theorem eql_string {t : TypeId} {x y : Operand} {s s' : ByteArray} (ht : P.underlying t = some .string) (hx : slotEval σ x = .string s) (hy : slotEval σ y = .string s') :
    (do eqGuard .eql t x y (slotEval σ x) (slotEval σ y); binOp .eql t (slotEval σ x) (slotEval σ y) : Sem Value).run P w = .ok (.bool (s.toList == s'.toList)) w := by
  simp [hx, hy, go_sem, ht]
end
end Go.Proofs.Ytmbjebdkhcpclaa
