/-
  Slots as values; what is wrong with a slot: both programs.
-/
import Derived.Test.YtmbjebdkhcpclaaEQ
import Derived.Test.YtmbjebdkhcpclaaOp
import Derived.Test.YtmbjebdkhcpclaaRc
import Derived.Test.YtmbjebdkhcpclaaRf
import Derived.Test.YtmbjebdkhcpclaaMk
set_option linter.unusedSimpArgs false
set_option linter.unusedVariables false
namespace Go.Proofs.Ytmbjebdkhcpclaa
open Go.RowKit

theorem mixed : Try.prog.follows .mixedOrders = true := by kernel_rfl

/-- A slot's cells. -/
@[reducible] def slotCells (k l s : Int) (d : Nat → Int) : Array Value :=
  #[.int .i64 k, .int .i64 l, .int .i64 s, .int .u8 (d 0), .int .u8 (d 1), .int .u8 (d 2), .int .u8 (d 3), .int .u8 (d 4), .int .u8 (d 5), .int .u8 (d 6), .int .u8 (d 7), .int .u8 (d 8), .int .u8 (d 9), .int .u8 (d 10), .int .u8 (d 11), .int .u8 (d 12), .int .u8 (d 13), .int .u8 (d 14), .int .u8 (d 15)]
@[reducible] def slotVal (k l s : Int) (d : Nat → Int) : Value := .agg (slotCells k l s d)
@[reducible] def headVal (a b c e : Int) : Value := .agg #[.int .i64 a, .int .i64 b, .int .i64 c, .int .i64 e]

set_option maxHeartbeats 400000 in
theorem has_yes (a b n : Int) (w : World) (h1 : a ≤ n) (h2 : n ≤ b) :
    Calls Try.prog 25 #[.agg #[.int .i64 a, .int .i64 b], .int .i64 n] w fun e w' => e = .returned (.bool true) ∧ w.alloc (.cells #[.int .i64 a, .int .i64 b] 54) = w' := by
  go_enter Try.func25, Try.ntmps25
  go_wp2_with fail
  go_ret
  exact ⟨rfl, rfl⟩
set_option maxHeartbeats 400000 in
theorem has_no (a b n : Int) (w : World) (h : ¬ (a ≤ n ∧ n ≤ b)) :
    Calls Try.prog 25 #[.agg #[.int .i64 a, .int .i64 b], .int .i64 n] w fun e w' => e = .returned (.bool false) ∧ w.alloc (.cells #[.int .i64 a, .int .i64 b] 54) = w' := by
  by_cases h1 : a ≤ n
  · have h2 : ¬ n ≤ b := fun h2 => h ⟨h1, h2⟩
    clear h
    go_enter Try.func25, Try.ntmps25
    go_wp2_with fail
    go_ret
    exact ⟨rfl, rfl⟩
  · clear h
    go_enter Try.func25, Try.ntmps25
    go_wp2_with fail
    go_ret
    exact ⟨rfl, rfl⟩

/-- Is a sector all noughts? -/
def zeroB (d : Nat → Int) : Bool := (List.range 16).all fun j => d j == 0
/-- What is wrong with a slot. -/
def checkF (k l s : Int) (d : Nat → Int) : Int :=
  if k < 0 ∨ 3 < k then 1 else if k = 1 ∨ k = 2 then (if l < 0 ∨ 65536 < l ∨ s < 1 ∨ 1099511627776 < s then 1 else if k = 1 ∨ zeroB d = true then 0 else 1)
  else (if l ≠ 0 ∨ s ≠ 0 then 1 else if zeroB d = true then 0 else 1)

theorem run_eq_loop {P : Program} {w : World} (d : Nat) (e : TypeId) (k : IntKind) (he : P.underlying e = some (.int k)) (xs ys : Array Value) (f g : Nat → Int) : ∀ (js : List Nat),
    (∀ j ∈ js, (part e xs (j * 1)).run P w = .ok (.int k (f j)) w ∧ (part e ys (j * 1)).run P w = .ok (.int k (g j)) w) →
    (forIn js ((none : Option Bool), ()) fun i __s => do
      let a ← part e xs (i * 1)
      let b ← part e ys (i * 1)
      let r ← Op.equalIn (d + 1) e a b
      if (!r) = true then pure (ForInStep.done (some false, ())) else pure (ForInStep.yield ((none : Option Bool), ()))).run P w =
      .ok (if (js.all fun j => f j == g j) = true then none else some false, ()) w := by
  intro js
  induction js with
  | nil => intro _; simp
  | cons j js ih =>
    intro h
    obtain ⟨h1, h2⟩ := h j (List.mem_cons_self ..)
    have ih := ih fun j hj => h j (List.mem_cons_of_mem _ hj)
    rw [List.forIn_cons]
    simp only [Sem.run_bind, h1, h2, Result.andThen_ok, run_equalIn_int w d e k k (f j) (g j) he]
    by_cases hfg : f j = g j
    · simp only [hfg, BEq.rfl, Bool.not_true, Bool.false_eq_true, if_false, Sem.run_pure, Result.andThen_ok, List.all_cons, Bool.true_and]
      exact ih
    · have : (f j == g j) = false := beq_eq_false_iff_ne.2 hfg
      simp only [this, Bool.not_false, if_true, Sem.run_pure, Result.andThen_ok, List.all_cons, Bool.false_and, Bool.false_eq_true, if_false]

theorem run_equal_array {P : Program} {w : World} (d : Nat) (t e : TypeId) (k : IntKind) (n : Nat) (xs ys : Array Value) (ht : P.underlying t = some (.array n e)) (he : P.underlying e = some (.int k)) (hs : (sizeOf e).run P w = .ok 1 w) (f g : Nat → Int)
    (h : ∀ j, j < n → (part e xs (j * 1)).run P w = .ok (.int k (f j)) w ∧ (part e ys (j * 1)).run P w = .ok (.int k (g j)) w) :
    (Op.equalIn (d + 1 + 1) t (.agg xs) (.agg ys)).run P w = .ok ((List.range n).all fun j => f j == g j) w := by
  unfold Op.equalIn
  simp only [Sem.run_bind, run_underlying ht, Result.andThen_ok, hs]
  have hr := run_eq_loop (P := P) (w := w) d e k he xs ys f g (List.range' 0 n) (fun j hj => h j (by simpa using hj))
  simp only [Std.Legacy.Range.forIn_eq_forIn_range', Std.Legacy.Range.size, Nat.sub_zero, Nat.add_sub_cancel, Nat.div_one]
  rw [hr]
  simp only [Result.andThen_ok, List.range_eq_range']
  by_cases hh : ((List.range' 0 n).all fun j => f j == g j) = true
  · rw [if_pos hh, hh]; rfl
  · rw [if_neg hh]; simp only [Bool.not_eq_true] at hh; rw [hh]; rfl

theorem part_u8 {cs : Array Value} {off : Nat} {v : Value} (w : World) (h : cs[off]? = some v) : (part 5 cs off).run Try.prog w = .ok v w := by
  have hi : (isAgg 5).run Try.prog w = .ok false w := by go_simp
  unfold part
  rw [Sem.run_bind, hi]
  simp [h]
theorem size_u8 (w : World) : (sizeOf 5).run Try.prog w = .ok 1 w := by go_simp

/-- A sector's cells. -/
@[reducible] def dataCells (d : Nat → Int) : Array Value := #[.int .u8 (d 0), .int .u8 (d 1), .int .u8 (d 2), .int .u8 (d 3), .int .u8 (d 4), .int .u8 (d 5), .int .u8 (d 6), .int .u8 (d 7), .int .u8 (d 8), .int .u8 (d 9), .int .u8 (d 10), .int .u8 (d 11), .int .u8 (d 12), .int .u8 (d 13), .int .u8 (d 14), .int .u8 (d 15)]
theorem dataCells_get (d : Nat → Int) (j : Nat) (h : j < 16) : (dataCells d)[j * 1]? = some (.int .u8 (d j)) := by
  have : j = 0 ∨ j = 1 ∨ j = 2 ∨ j = 3 ∨ j = 4 ∨ j = 5 ∨ j = 6 ∨ j = 7 ∨ j = 8 ∨ j = 9 ∨ j = 10 ∨ j = 11 ∨ j = 12 ∨ j = 13 ∨ j = 14 ∨ j = 15 := by omega
  rcases this with rfl | rfl | rfl | rfl | rfl | rfl | rfl | rfl | rfl | rfl | rfl | rfl | rfl | rfl | rfl | rfl <;> rfl
theorem eq_data (d e : Nat → Int) (w : World) : (Op.equalIn 10000 22 (.agg (dataCells d)) (.agg (dataCells e))).run Try.prog w = .ok ((List.range 16).all fun j => d j == e j) w :=
  run_equal_array 9998 22 5 .u8 16 _ _ Try.underlying22 Try.underlying5 (size_u8 w) d e fun j hj => ⟨part_u8 w (dataCells_get d j hj), part_u8 w (dataCells_get e j hj)⟩
theorem eq_zero (d : Nat → Int) (w : World) : (Op.equalIn 10000 22 (.agg (dataCells d)) (.agg #[.int .u8 0, .int .u8 0, .int .u8 0, .int .u8 0, .int .u8 0, .int .u8 0, .int .u8 0, .int .u8 0, .int .u8 0, .int .u8 0, .int .u8 0, .int .u8 0, .int .u8 0, .int .u8 0, .int .u8 0, .int .u8 0])).run Try.prog w = .ok (zeroB d) w := eq_data d (fun _ => 0) w

theorem wpList_built {P : Program} {ops : Array Oper} {rest : List Oper} {o : Oper} {a : Act} {w : World} {Q : Exit → Act → World → Prop} (hg : o.guard = none) (t : TypeId) (parts : Array (Nat × Operand)) (ho : o.op = .build t parts) (cells : Array Value)
    (hf : P.built t (parts.map fun (i, x) => (i, a.eval x)).toList = some cells) (h : wpList P ops Q rest (a.put o.dst (.agg cells)) w) : wpList P ops Q (o :: rest) a w :=
  wpList_build hg t parts ho (by rw [hf]; rfl) (by rw [hf]; exact h)
@[reducible] def headCells (a b c e : Int) : Array Value := #[.int .i64 a, .int .i64 b, .int .i64 c, .int .i64 e]
theorem head_one (a b c e : Int) : (headCells a b c e).all (·.oneCell') = true := by simp [Value.oneCell']
theorem head_info (a b c e : Int) : (Try.prog.info? 30).map (·.size) = some (headCells a b c e).size := by kernel_rfl
theorem slot_one (k l s : Int) (d : Nat → Int) : (slotCells k l s d).all (·.oneCell') = true := by simp [Value.oneCell']
theorem slot_info (k l s : Int) (d : Nat → Int) : (Try.prog.info? 24).map (·.size) = some (slotCells k l s d).size := by kernel_rfl
theorem built3 (k l s : Int) : Try.prog.built 24 [(0, .int .i64 k), (1, .int .i64 l), (2, .int .i64 s)] = some (slotCells k l s (fun _ => 0)) := by kernel_rfl
end Go.Proofs.Ytmbjebdkhcpclaa
