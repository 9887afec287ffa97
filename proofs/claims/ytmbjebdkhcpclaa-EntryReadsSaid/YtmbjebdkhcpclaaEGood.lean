/-
  A slot that may be, out of raw numbers.
-/
import Derived.Test.YtmbjebdkhcpclaaEB
import Derived.StillTailTactics
import Derived.Deep.WholeRow
import Derived.Deep.MidRow
set_option linter.unusedSimpArgs false
set_option linter.unusedVariables false
namespace Go.Proofs.Ytmbjebdkhcpclaa
open Go.RowKit

def goodL (k l : Int) : Int := if k % 4 = 1 ∨ k % 4 = 2 then l % 100 else 0
def goodS (k s : Int) : Int := if k % 4 = 1 ∨ k % 4 = 2 then 1 + s % 1000 else 0
def goodD (k : Int) (d : Nat → Int) : Nat → Int := if k % 4 = 1 then d else fun _ => 0
/-- What 'Good' gives. -/
def goodVal (k l s : Int) (d : Nat → Int) : Value := slotVal (k % 4) (goodL k l) (goodS k s) (goodD k d)

theorem data_info (d : Nat → Int) : (Try.prog.info? 22).map (·.size) = some (dataCells d).toList.length := by kernel_rfl
theorem built4 (k l s : Int) (d : Nat → Int) : Try.prog.built 24 [(0, .int .i64 k), (1, .int .i64 l), (2, .int .i64 s), (3, .agg (dataCells d))] = some (slotCells k l s d) := by kernel_rfl
theorem built1 (k : Int) : Try.prog.built 24 [(0, .int .i64 k)] = some (slotCells k 0 0 (fun _ => 0)) := by kernel_rfl

theorem within_still (a n : Int) (w : World) (hn : 0 < n) (hn2 : n ≤ 1000000) (ha : -9223372036854775808 ≤ a ∧ a ≤ 9223372036854775807) :
    Calls Try.prog 13 #[.int .i64 a, .int .i64 n] w fun e w' => e = .returned (.int .i64 (a % n)) ∧ w' = w :=
  (within_calls a n w hn hn2 ha).mono fun e w' h => ⟨h.1, h.2.symm⟩

/-- 'wp_region_still_tail', the world behind the draw by a name. -/
theorem still_tail {P : Program} {id : Nat} {Q : Exit → Act → World → Prop} {a : Act} {w : World} {l : List Oper} (n : Nat) (hm : P.follows .mixedOrders = true) (hB : Region.lexTailB .any l.toArray n = true)
    (h : ∀ wd, w.drew = wd → wpStill P l.toArray wd (fun a' => wpList P l.toArray Q (l.drop n) a' wd) (l.take n) a) : (Code.region id l.toArray true).wp P Q a w :=
  wp_region_still_tail n hm hB (h _ rfl)
theorem still_load_mid {P : Program} {ops : Array Oper} {o : Oper} {a : Act} {w : World} {K : Act → Prop} (hgd : o.guard = none) (ty : TypeId) (x : Operand) (ho : o.op = .load ty x) (b off : Nat) (hx : a.eval x = .pointer (some ⟨b, off, none⟩)) (cs : List Value) (d : TypeDesc) (hc : w.rangeAt b off cs)
    (hu : P.underlying ty = some d) (hd : d.isRow = true) (hi : (P.info? ty).map (·.size) = some cs.length) (h : K (a.put o.dst (.agg cs.toArray))) : if Region.wanted o (yielded ops a.tmps) = true then o.still P a w K else K (a.put o.dst undef) := by
  rw [if_pos (by simp [Region.wanted, hgd])]
  unfold Oper.still execOp
  simp only [ho, hx, Instr.loadAt, Instr.sureAddr, Sem.run_bind, Sem.run_pure, Result.andThen_ok, run_loadVar_mid w b off ty cs d hc hu hd hi]
  exact ⟨rfl, h⟩
theorem still_built {P : Program} {ops : Array Oper} {o : Oper} {a : Act} {w : World} {K : Act → Prop} (hgd : o.guard = none) (t : TypeId) (parts : Array (Nat × Operand)) (ho : o.op = .build t parts) (cells : Array Value)
    (hf : P.built t (parts.map fun (i, x) => (i, a.eval x)).toList = some cells) (h : K (a.put o.dst (.agg cells))) : if Region.wanted o (yielded ops a.tmps) = true then o.still P a w K else K (a.put o.dst undef) := by
  rw [if_pos (by simp [Region.wanted, hgd])]
  unfold Oper.still execOp
  simp only [ho, Sem.run_bind, run_build w t _ cells hf, Result.andThen_ok]
  exact ⟨rfl, h⟩
theorem SlotAt.drew {w : World} {b : Nat} {k l s : Int} {d : Nat → Int} (h : SlotAt w b k l s d) : SlotAt w.drew b k l s d := h
theorem slot_range {w : World} {b : Nat} {k l s : Int} {d : Nat → Int} (h : SlotAt w b k l s d) : w.rangeAt b 3 (dataCells d).toList := fun j v hv => by
  have hj : j < 16 := (List.getElem?_eq_some_iff.1 hv).1
  have := dataCells_get d j hj
  rw [Nat.mul_one, ← Array.getElem?_toList, hv] at this
  rw [this]
  exact (h.byte j hj).1

set_option maxHeartbeats 4000000 in
set_option maxRecDepth 100000 in
theorem Good_0 (k l s : Int) (d : Nat → Int) (w : World) (hk : -9223372036854775808 ≤ k ∧ k ≤ 9223372036854775807) (hl : -9223372036854775808 ≤ l ∧ l ≤ 9223372036854775807) (hs : -9223372036854775808 ≤ s ∧ s ≤ 9223372036854775807) (h1 : k % 4 = 0) :
    Calls Try.prog 12 #[slotVal k l s d] w fun e w' => e = .returned (slotVal 0 0 0 (fun _ => 0)) ∧ Ext w w' := by
  have Hk := Lib.hid hk
  have Hl := Lib.hid hl
  have Hs := Lib.hid hs
  have H1 := Lib.hid h1
  clear hk hl hs h1
  go_enter Try.func12, Try.ntmps12
  go_wp2_with fail
  refine (within_calls k 4 _ (by decide) (by decide) Hk.out).mono ?_
  rintro e w' ⟨rfl, hw'⟩
  obtain ⟨B, hB⟩ : ∃ B, w.heap.size = B := ⟨_, rfl⟩
  have hE : Ext w w' := hw' ▸ ((Ext.refl w).alloc _).alloc _
  have HS := Lib.hid (show SlotAt w' B k l s d by rw [← hw', ← hB]; exact (SlotAt.new w k l s d).ext ((Ext.refl _).alloc _))
  have HT := Lib.hid (show SlotAt w' (B + 1) 0 0 0 (fun _ => 0) by
    rw [← hw', ← hB]; have := SlotAt.new (w.alloc (.cells (slotCells k l s d) 24)) 0 0 0 (fun _ => 0); rwa [World.size_alloc] at this)
  have hBw : w.heap.size ≤ B := Nat.le_of_eq hB
  rw [hB]
  clear hw' hB
  rw [H1.out]
  have tok : True := trivial
  have tok2 : True := trivial
  go_wp2_with (first | (have _t := tok2; clear _t; refine wpList_built rfl 24 _ rfl (slotCells 0 0 0 (fun _ => 0)) (built1 0) ?_; clear tok2) | (have _t := tok; clear _t; refine wpList_store_row rfl 24 _ _ rfl (B + 1) (slotCells 0 0 0 (fun _ => 0)) rfl rfl 24 (slotCells 0 0 0 (fun _ => 0)) HT.out (slot_info ..) rfl (slot_one ..) ?_; clear tok))
  refine bodyPost_ret (results_cell_row rfl _ _ (B + 1) 24 (slotCells 0 0 0 (fun _ => 0)) (0, 0) _ rfl (row_at HT.out) Try.underlying24 rfl (slot_info ..)) rfl ?_
  exact ⟨rfl, hE.row (by omega) _⟩

set_option maxHeartbeats 4000000 in
set_option maxRecDepth 100000 in
theorem Good_1 (k l s : Int) (d : Nat → Int) (w : World) (hk : -9223372036854775808 ≤ k ∧ k ≤ 9223372036854775807) (hl : -9223372036854775808 ≤ l ∧ l ≤ 9223372036854775807) (hs : -9223372036854775808 ≤ s ∧ s ≤ 9223372036854775807) (h1 : k % 4 = 1) :
    Calls Try.prog 12 #[slotVal k l s d] w fun e w' => e = .returned (slotVal 1 (l % 100) (1 + s % 1000) d) ∧ Ext w w' := by
  have Hk := Lib.hid hk
  have Hl := Lib.hid hl
  have Hs := Lib.hid hs
  have H1 := Lib.hid h1
  obtain ⟨L, hL⟩ : ∃ L, l % 100 = L := ⟨_, rfl⟩
  obtain ⟨R, hR⟩ : ∃ R, s % 1000 = R := ⟨_, rfl⟩
  have hR2 : IntKind.i64.wrap (1 + R) = 1 + R := by rw [IntKind.wrap_i64]; omega
  rw [hL, hR]
  have HL := Lib.hid hL
  have HR := Lib.hid hR
  clear hL hR
  clear hk hl hs h1
  go_enter Try.func12, Try.ntmps12
  go_wp2_with fail
  refine (within_calls k 4 _ (by decide) (by decide) Hk.out).mono ?_
  rintro e w' ⟨rfl, hw'⟩
  obtain ⟨B, hB⟩ : ∃ B, w.heap.size = B := ⟨_, rfl⟩
  have hE : Ext w w' := hw' ▸ ((Ext.refl w).alloc _).alloc _
  have HS := Lib.hid (show SlotAt w' B k l s d by rw [← hw', ← hB]; exact (SlotAt.new w k l s d).ext ((Ext.refl _).alloc _))
  have HT := Lib.hid (show SlotAt w' (B + 1) 0 0 0 (fun _ => 0) by
    rw [← hw', ← hB]; have := SlotAt.new (w.alloc (.cells (slotCells k l s d) 24)) 0 0 0 (fun _ => 0); rwa [World.size_alloc] at this)
  have hBw : w.heap.size ≤ B := Nat.le_of_eq hB
  rw [hB]
  clear hw' hB
  rw [H1.out]
  go_wp2_with fail
  refine still_tail 11 mixed (by kernel_rfl) fun wd hwd => ?_
  have hE := hwd ▸ hE.drew
  have HS := Lib.hid (hwd ▸ HS.out.drew)
  have HT := Lib.hid (hwd ▸ HT.out.drew)
  clear hwd
  obtain ⟨⟨c0, c1, c2⟩, hf⟩ := HS.out.heads
  clear hf
  simp only [List.take_succ_cons, List.take_zero, List.drop_succ_cons, List.drop_zero]
  still_step
  still_step
  still_step
  still_call (HL.out ▸ within_still l 100 _ (by decide) (by decide) Hl.out)
  still_step
  still_step
  still_call (HR.out ▸ within_still s 1000 _ (by decide) (by decide) Hs.out)
  still_step
  still_step
  refine wpStill_step (fun K hK => ?_)
  refine still_load_mid rfl 22 _ rfl B 3 rfl (dataCells d).toList _ (slot_range HS.out) Try.underlying22 rfl (data_info d) ?_
  go_simp
  refine hK _ ?_
  clear hK K
  refine wpStill_step (fun K hK => ?_)
  refine still_built rfl 24 _ rfl (slotCells 1 L (1 + R) d) ?hf ?_
  case hf =>
    have hb := built4 1 L (1 + R) d
    simp only [List.map_toArray, List.map_cons, List.map_nil]
    go_simp
  go_simp
  refine hK _ ?_
  clear hK K
  refine wpStill_nil ?_
  clear c0 c1 c2 hR2
  have tok : True := trivial
  go_wp2_with (have _t := tok; clear _t; refine wpList_store_row rfl 24 _ _ rfl (B + 1) (slotCells 1 L (1 + R) d) rfl rfl 24 (slotCells 0 0 0 (fun _ => 0)) HT.out (slot_info ..) rfl (slot_one ..) ?_; clear tok)
  refine bodyPost_ret (results_cell_row rfl _ _ (B + 1) 24 (slotCells 1 L (1 + R) d) (0, 0) _ rfl (row_at HT.out) Try.underlying24 rfl (slot_info ..)) rfl ?_
  exact ⟨rfl, hE.row (by omega) _⟩

set_option maxHeartbeats 4000000 in
set_option maxRecDepth 100000 in
theorem Good_2 (k l s : Int) (d : Nat → Int) (w : World) (hk : -9223372036854775808 ≤ k ∧ k ≤ 9223372036854775807) (hl : -9223372036854775808 ≤ l ∧ l ≤ 9223372036854775807) (hs : -9223372036854775808 ≤ s ∧ s ≤ 9223372036854775807) (h1 : k % 4 = 2) :
    Calls Try.prog 12 #[slotVal k l s d] w fun e w' => e = .returned (slotVal 2 (l % 100) (1 + s % 1000) (fun _ => 0)) ∧ Ext w w' := by
  have Hk := Lib.hid hk
  have Hl := Lib.hid hl
  have Hs := Lib.hid hs
  have H1 := Lib.hid h1
  obtain ⟨L, hL⟩ : ∃ L, l % 100 = L := ⟨_, rfl⟩
  obtain ⟨R, hR⟩ : ∃ R, s % 1000 = R := ⟨_, rfl⟩
  have hR2 : IntKind.i64.wrap (1 + R) = 1 + R := by rw [IntKind.wrap_i64]; omega
  rw [hL, hR]
  have HL := Lib.hid hL
  have HR := Lib.hid hR
  clear hL hR
  clear hk hl hs h1
  go_enter Try.func12, Try.ntmps12
  go_wp2_with fail
  refine (within_calls k 4 _ (by decide) (by decide) Hk.out).mono ?_
  rintro e w' ⟨rfl, hw'⟩
  obtain ⟨B, hB⟩ : ∃ B, w.heap.size = B := ⟨_, rfl⟩
  have hE : Ext w w' := hw' ▸ ((Ext.refl w).alloc _).alloc _
  have HS := Lib.hid (show SlotAt w' B k l s d by rw [← hw', ← hB]; exact (SlotAt.new w k l s d).ext ((Ext.refl _).alloc _))
  have HT := Lib.hid (show SlotAt w' (B + 1) 0 0 0 (fun _ => 0) by
    rw [← hw', ← hB]; have := SlotAt.new (w.alloc (.cells (slotCells k l s d) 24)) 0 0 0 (fun _ => 0); rwa [World.size_alloc] at this)
  have hBw : w.heap.size ≤ B := Nat.le_of_eq hB
  rw [hB]
  clear hw' hB
  rw [H1.out]
  go_wp2_with fail
  refine still_tail 9 mixed (by kernel_rfl) fun wd hwd => ?_
  have hE := hwd ▸ hE.drew
  have HS := Lib.hid (hwd ▸ HS.out.drew)
  have HT := Lib.hid (hwd ▸ HT.out.drew)
  clear hwd
  obtain ⟨⟨c0, c1, c2⟩, hf⟩ := HS.out.heads
  clear hf
  simp only [List.take_succ_cons, List.take_zero, List.drop_succ_cons, List.drop_zero]
  still_step
  still_step
  still_step
  still_call (HL.out ▸ within_still l 100 _ (by decide) (by decide) Hl.out)
  still_step
  still_step
  still_call (HR.out ▸ within_still s 1000 _ (by decide) (by decide) Hs.out)
  still_step
  refine wpStill_step (fun K hK => ?_)
  refine still_built rfl 24 _ rfl (slotCells 2 L (1 + R) (fun _ => 0)) ?hf ?_
  case hf =>
    have hb := built3 2 L (1 + R)
    simp only [List.map_toArray, List.map_cons, List.map_nil]
    go_simp
  go_simp
  refine hK _ ?_
  clear hK K
  refine wpStill_nil ?_
  clear c0 c1 c2 hR2
  have tok : True := trivial
  go_wp2_with (have _t := tok; clear _t; refine wpList_store_row rfl 24 _ _ rfl (B + 1) (slotCells 2 L (1 + R) (fun _ => 0)) rfl rfl 24 (slotCells 0 0 0 (fun _ => 0)) HT.out (slot_info ..) rfl (slot_one ..) ?_; clear tok)
  refine bodyPost_ret (results_cell_row rfl _ _ (B + 1) 24 (slotCells 2 L (1 + R) (fun _ => 0)) (0, 0) _ rfl (row_at HT.out) Try.underlying24 rfl (slot_info ..)) rfl ?_
  exact ⟨rfl, hE.row (by omega) _⟩

set_option maxHeartbeats 4000000 in
set_option maxRecDepth 100000 in
theorem Good_3 (k l s : Int) (d : Nat → Int) (w : World) (hk : -9223372036854775808 ≤ k ∧ k ≤ 9223372036854775807) (hl : -9223372036854775808 ≤ l ∧ l ≤ 9223372036854775807) (hs : -9223372036854775808 ≤ s ∧ s ≤ 9223372036854775807) (h1 : k % 4 = 3) :
    Calls Try.prog 12 #[slotVal k l s d] w fun e w' => e = .returned (slotVal 3 0 0 (fun _ => 0)) ∧ Ext w w' := by
  have Hk := Lib.hid hk
  have Hl := Lib.hid hl
  have Hs := Lib.hid hs
  have H1 := Lib.hid h1
  clear hk hl hs h1
  go_enter Try.func12, Try.ntmps12
  go_wp2_with fail
  refine (within_calls k 4 _ (by decide) (by decide) Hk.out).mono ?_
  rintro e w' ⟨rfl, hw'⟩
  obtain ⟨B, hB⟩ : ∃ B, w.heap.size = B := ⟨_, rfl⟩
  have hE : Ext w w' := hw' ▸ ((Ext.refl w).alloc _).alloc _
  have HS := Lib.hid (show SlotAt w' B k l s d by rw [← hw', ← hB]; exact (SlotAt.new w k l s d).ext ((Ext.refl _).alloc _))
  have HT := Lib.hid (show SlotAt w' (B + 1) 0 0 0 (fun _ => 0) by
    rw [← hw', ← hB]; have := SlotAt.new (w.alloc (.cells (slotCells k l s d) 24)) 0 0 0 (fun _ => 0); rwa [World.size_alloc] at this)
  have hBw : w.heap.size ≤ B := Nat.le_of_eq hB
  rw [hB]
  clear hw' hB
  rw [H1.out]
  have tok : True := trivial
  have tok2 : True := trivial
  go_wp2_with (first | (have _t := tok2; clear _t; refine wpList_built rfl 24 _ rfl (slotCells 3 0 0 (fun _ => 0)) (built1 3) ?_; clear tok2) | (have _t := tok; clear _t; refine wpList_store_row rfl 24 _ _ rfl (B + 1) (slotCells 3 0 0 (fun _ => 0)) rfl rfl 24 (slotCells 0 0 0 (fun _ => 0)) HT.out (slot_info ..) rfl (slot_one ..) ?_; clear tok))
  refine bodyPost_ret (results_cell_row rfl _ _ (B + 1) 24 (slotCells 3 0 0 (fun _ => 0)) (0, 0) _ rfl (row_at HT.out) Try.underlying24 rfl (slot_info ..)) rfl ?_
  exact ⟨rfl, hE.row (by omega) _⟩

theorem Good_calls (k l s : Int) (d : Nat → Int) (w : World) (hk : -9223372036854775808 ≤ k ∧ k ≤ 9223372036854775807) (hl : -9223372036854775808 ≤ l ∧ l ≤ 9223372036854775807) (hs : -9223372036854775808 ≤ s ∧ s ≤ 9223372036854775807) :
    Calls Try.prog 12 #[slotVal k l s d] w fun e w' => e = .returned (slotVal (k % 4) (goodL k l) (goodS k s) (goodD k d)) ∧ Ext w w' := by
  have hq : k % 4 = 0 ∨ k % 4 = 1 ∨ k % 4 = 2 ∨ k % 4 = 3 := by omega
  rcases hq with q | q | q | q
  · have h := Good_0 k l s d w hk hl hs q
    rw [show goodL k l = 0 by simp [goodL, q], show goodS k s = 0 by simp [goodS, q], show goodD k d = fun _ => 0 by simp [goodD, q], q]
    exact h
  · have h := Good_1 k l s d w hk hl hs q
    rw [show goodL k l = l % 100 by simp [goodL, q], show goodS k s = 1 + s % 1000 by simp [goodS, q], show goodD k d = d by simp [goodD, q], q]
    exact h
  · have h := Good_2 k l s d w hk hl hs q
    rw [show goodL k l = l % 100 by simp [goodL, q], show goodS k s = 1 + s % 1000 by simp [goodS, q], show goodD k d = fun _ => 0 by simp [goodD, q], q]
    exact h
  · have h := Good_3 k l s d w hk hl hs q
    rw [show goodL k l = 0 by simp [goodL, q], show goodS k s = 0 by simp [goodS, q], show goodD k d = fun _ => 0 by simp [goodD, q], q]
    exact h
end Go.Proofs.Ytmbjebdkhcpclaa
