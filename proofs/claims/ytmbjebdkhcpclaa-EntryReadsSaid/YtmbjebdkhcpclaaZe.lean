/-
  append(v, make([]T, m)...) over a slice of numbers that the call owns.
-/
import Derived.Test.YtmbjebdkhcpclaaLb
import Derived.Lib.AppendZerosOnto
set_option linter.unusedSimpArgs false
set_option linter.unusedVariables false
namespace Go.Proofs.Ytmbjebdkhcpclaa
open Go.RowKit

theorem run_append_room_zeros {P : Program} (w : World) (t tn ty e : TypeId) (i : TypeInfo) (z : Value) (kq kn : IntKind) (ht : P.underlying t = some (.slice e)) (htn : P.underlying tn = some (.int kn)) (hi : P.info? e = some i) (hz : i.zero = some z)
    (hs1 : i.size = 1) (hz1 : z.cells = #[z]) (ho : z.oneCell' = true) (g n cap : Nat) (cur : Array Value) (hg : w.heap[g]? = some (.cells cur e (0, 0))) (m : Nat) (h63 : (m : Int) ≤ 9223372036854775807) (h48 : m * i.bytes ≤ 281474976710656) (hroom : n + m ≤ cap) (hcs : cur.size = cap) :
    (Builtin.append_ #[t, tn] ty #[.slice (some ⟨g, 0, none⟩) n cap, .int kq m]).run P w =
      .ok (.slice (some ⟨g, 0, none⟩) (n + m) cap) (w.setRow g (cur.toList.take n ++ List.replicate m z ++ cur.toList.drop (n + m)).toArray) := by
  have hw : IntKind.i64.wrap (m : Int) = m := by rw [IntKind.wrap_i64]; omega
  have h48i : ¬ (281474976710656 < (m : Int) * (i.bytes : Int)) := by
    rw [← Int.natCast_mul]
    omega
  have hneg : ¬ ((m : Int) < 0) := by omega
  have hst := run_storeCells_at P g n e (List.replicate m z) 0 cur w hg (by simp; omega) (fun v hv => by rw [List.eq_of_mem_replicate hv]; exact ho)
  simp only [Nat.add_zero, List.length_replicate] at hst
  have hzc : Builtin.zeroCells z.cells m = (List.replicate m z).toArray := by
    rw [hz1]
    unfold Builtin.zeroCells
    apply Array.ext
    · simp
    · intro j h1 h2; simp [Nat.mod_one]
  by_cases hm : m = 0
  · subst hm
    simp only [List.replicate_zero] at hst
    have hw0 : IntKind.i64.wrap 0 = 0 := by rw [IntKind.wrap_i64]; omega
    have hroom0 : n ≤ cap := by omega
    simp [Builtin.append_, run_underlying ht, run_underlying htn, sizeOf, typeInfo, hi, hs1, asInt, asIntOf, hw0, hroom0, Addr.add_lit]
    have e : Sem.run P (storeCells ⟨g, n, none⟩ []) w = Result.ok () (w.setRow g (cur.toList.take n ++ [] ++ cur.toList.drop (n + 0)).toArray) := hst
    rw [e]
    simp
  · simp [Builtin.append_, run_underlying ht, run_underlying htn, sizeOf, typeInfo, zeroValue, hi, hz, hs1, asInt, asIntOf, hw, hneg, h48i, hroom, hm, hzc, Addr.add_lit, hst]

theorem run_append_zeros {P : Program} (w : World) (base : Nat) (t tn ty e : TypeId) (k kq kn : IntKind) (bytes : Nat) (ht : P.underlying t = some (.slice e)) (htn : P.underlying tn = some (.int kn))
    (hinfo : (P.info? e).map (fun i => (i.zero, i.size, i.bytes)) = some (some (.int k 0), 1, bytes)) (hb : 0 < bytes)
    (v : Value) (xs : List Int) (HO : Own w base e k v xs) (m : Nat) (hl : (xs.length + m) * bytes ≤ 140737488355328) (hbase : base ≤ w.heap.size) :
    ∃ v' w', (Builtin.append_ #[t, tn] ty #[v, .int kq m]).run P w = .ok v' w' ∧ Own w' base e k v' (xs ++ List.replicate m 0) ∧ Grew w w' v v' := by
  obtain ⟨i, hi, hz, hs1, hby⟩ := info_parts hinfo
  have hlen : xs.length + m ≤ 140737488355328 := Nat.le_trans (Nat.le_mul_of_pos_right _ hb) hl
  have hmb : m * i.bytes ≤ 281474976710656 := by
    rw [hby]
    have : m * bytes ≤ (xs.length + m) * bytes := Nat.mul_le_mul_right _ (by omega)
    omega
  have hzc : ∀ q, Builtin.zeroCells (Value.int k 0).cells q = (nums k (List.replicate q 0)).toArray := by
    intro q
    unfold Builtin.zeroCells nums
    apply Array.ext
    · simp [Value.cells]
    · intro j h1 h2; simp [Value.cells, Nat.mod_one]
  rcases HO.2 with ⟨rfl, h0⟩ | ⟨g, cap, cur, rfl, hbg, hg, hnc, hcm, hcs, ht2⟩
  · have hx : xs = [] := List.eq_nil_of_length_eq_zero h0
    subst hx
    rcases Nat.eq_zero_or_pos m with rfl | hm
    · refine ⟨.slice none 0 0, w, ?_, own_nil _ _ _ _, Grew.refl _ _⟩
      have hw : IntKind.i64.wrap (0 : Int) = 0 := by rw [IntKind.wrap_i64]; omega
      simp [Builtin.append_, run_underlying ht, run_underlying htn, sizeOf, typeInfo, hi, asInt, asIntOf, hw, Builtin.firstCells]
    · have hr := Lib.run_append_nil_zeros (P := P) w t tn ty e i (.int k 0) kq kn ht htn hi hz m hm (by omega) (by omega) hmb
      have hge := grownCap_ge w m 0 e
      refine ⟨_, _, hr, ⟨by simp [nums], .inr ⟨w.heap.size, _, _, by simp, hbase, heap_alloc_new w.drew _, by simpa using hge, grownCap_le_maxLen w m 0 e (by unfold maxLen; omega), ?_, ?_⟩⟩, ⟨⟨rfl, rfl, rfl, by simp, fun q hq _ => Below.heap_alloc w.drew _ q hq⟩, fun q hq => .inl (by cases hq; exact Nat.le_refl _)⟩⟩
      · rw [hzc, hzc]; simp [nums]; omega
      · rw [hzc, hzc]; simp [nums]
  · have hcs1 : cur.size = cap := by omega
    by_cases hroom : xs.length + m ≤ cap
    · have hr := run_append_room_zeros (P := P) w t tn ty e i (.int k 0) kq kn ht htn hi hz hs1 rfl rfl g xs.length cap cur hg m (by omega) hmb hroom hcs1
      refine ⟨_, _, hr, ⟨by simp [nums], .inr ⟨g, cap, _, by simp, hbg, setRow_heap w g cur _ e _ hg, by simpa using hroom, hcm, ?_, ?_⟩⟩, ⟨⟨rfl, rfl, rfl, by simp, fun q _ hq => setRow_other w g q _ (fun e => hq (by simp [Value.ownBlock, e]))⟩, fun q hq => .inr hq⟩⟩
      · simp only [List.size_toArray, List.length_append, List.length_take, List.length_drop, Array.length_toList, List.length_replicate]
        omega
      · have h1 : cur.toList.take xs.length = nums k xs := by simpa using ht2
        rw [h1]
        have h2 : (xs ++ List.replicate m (0 : Int)).length * 1 = (nums k xs ++ List.replicate m (Value.int k 0)).length := by simp [nums]
        rw [h2]
        simp only [nums, List.map_append, List.map_replicate]
        exact List.take_left
    · have hm : 0 < m := by omega
      have hold := run_firstCells_some (P := P) w.drew i.size xs.length ⟨g, 0, none⟩ xs.length cap (nums k xs) (by rw [hs1]; simp [nums]) (fun j u hu => HO.cells (g := g) rfl j u hu)
      have hr := Lib.run_append_grow_zeros (P := P) w t tn ty e i (.int k 0) kq kn ht htn hi hz (some ⟨g, 0, none⟩) xs.length cap (nums k xs) hold m hm (by omega) (by omega) (by omega) hmb (by rw [hby]; exact growslice_fits (by omega) hl)
      have hge := grownCap_ge w (xs.length + m) cap e
      refine ⟨_, _, hr, ⟨by simp [nums], .inr ⟨w.heap.size, _, _, by simp, hbase, heap_alloc_new w.drew _, by simpa using hge, grownCap_le_maxLen w (xs.length + m) cap e (by unfold maxLen; omega), ?_, ?_⟩⟩, ⟨⟨rfl, rfl, rfl, by simp, fun q hq _ => Below.heap_alloc w.drew _ q hq⟩, fun q hq => .inl (by cases hq; exact Nat.le_refl _)⟩⟩
      · rw [hzc, hzc]; simp [nums]; omega
      · rw [hzc, hzc]
        have h2 : (xs ++ List.replicate m (0 : Int)).length * 1 = (nums k xs ++ nums k (List.replicate m 0)).length := by simp [nums]
        rw [h2, nums_append]
        simp only [Array.toList_append, List.append_assoc]
        rw [← List.append_assoc]
        exact List.take_left

section
variable {P : Program} {ops : Array Oper} {rest : List Oper} {o : Oper} {a : Act} {Q : Exit → Act → World → Prop}
theorem wpList_append_zeros {w0 W : World} (hgd : o.guard = none) (s x : Operand) (t tn e : TypeId) (k kq kn : IntKind) (bytes : Nat)
    (ho : o.op = .call { callee := .builtin .append, args := #[s, x], argTypes := #[t, tn] }) (ht : P.underlying t = some (.slice e)) (htn : P.underlying tn = some (.int kn))
    (hinfo : (P.info? e).map (fun i => (i.zero, i.size, i.bytes)) = some (some (.int k 0), 1, bytes)) (hb : 0 < bytes)
    (v : Value) (xs : List Int) (m : Nat) (hs : a.eval s = v) (hx : a.eval x = .int kq m) (HO : Own W w0.heap.size e k v xs) (HB : Ext w0 W)
    (hl : (xs.length + m) * bytes ≤ 140737488355328)
    (h : ∀ v' w', Own w' w0.heap.size e k v' (xs ++ List.replicate m 0) → Ext w0 w' → wpList P ops Q rest (a.put o.dst v') w') : wpList P ops Q (o :: rest) a W := by
  obtain ⟨v', w', hrun, hO, hG⟩ := run_append_zeros (P := P) W w0.heap.size t tn o.type e k kq kn bytes ht htn hinfo hb v xs HO m hl HB.size
  refine wpList_plain hgd fun K hK => ?_
  unfold Oper.wp execOp
  simp only [ho, resolve, invoke, builtin, Sem.run_bind, Sem.run_pure, Result.andThen_ok, List.map_toArray, List.map_cons, List.map_nil, hs, hx, hrun]
  exact hK _ _ (h v' w' hO (Below.grown HB hG.grown HB.size fun q hq => (HO.lt q hq).1))
end

end Go.Proofs.Ytmbjebdkhcpclaa
