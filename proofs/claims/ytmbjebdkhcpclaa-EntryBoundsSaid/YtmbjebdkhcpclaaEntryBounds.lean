/-
  The walk of the law EntryBounds. Printed by mk_EntryBounds.py.
-/
import Derived.Test.YtmbjebdkhcpclaaEK
import Derived.Deep.WholeRow
set_option linter.unusedSimpArgs false
set_option linter.unusedVariables false
namespace Go.Proofs.Ytmbjebdkhcpclaa
open Go.RowKit

theorem built3' (k l s : Int) : Try.prog.built 24 [(0, .int .i64 k), (1, .int .i64 l), (2, .int .i64 s)] = some (slotCells k l s (fun _ => 0)) := built3 k l s

set_option maxHeartbeats 2000000 in
set_option maxRecDepth 100000 in
theorem EntryBounds_00 (which : Int) (w : World) (hw : -9223372036854775808 ≤ which ∧ which ≤ 9223372036854775807) (hq : which % 8 = 0) :
    Calls Try.prog 4 #[.int .i64 which, .bool false] w fun e w' => e = .returned (.bool true) ∧ Ext w w' := by
  have Hw := Lib.hid hw
  have Hq := Lib.hid hq
  clear hw hq
  go_enter Try.func4, Try.ntmps4
  go_wp2_with fail
  refine (known10_calls w).mono ?_
  rintro e w1 ⟨rfl, hE⟩
  have tokb : True := trivial
  have toks : True := trivial
  go_wp2_with (first | (have _t := tokb; clear _t; refine wpList_built rfl 24 _ rfl (slotCells 1 5 5 (fun _ => 0)) (built3 1 5 5) ?_; clear tokb) | (have _t := toks; clear _t; refine wpList_store_row rfl 24 _ _ rfl _ (slotCells 1 5 5 (fun _ => 0)) rfl rfl 24 (slotCells 0 0 0 (fun _ => 0)) (heap_alloc_new w1 _) (slot_info ..) rfl (slot_one ..) ?_; clear toks))
  obtain ⟨w2, hw2⟩ : ∃ w2, (w1.alloc (.cells (slotCells 0 0 0 (fun _ => 0)) 24)).setRow w1.heap.size (slotCells 1 5 5 (fun _ => 0)) = w2 := ⟨_, rfl⟩
  rw [hw2]
  rw [World.setRow_alloc_new] at hw2
  have HS := Lib.hid (show SlotAt w2 w1.heap.size 1 5 5 (fun _ => 0) by rw [← hw2]; exact SlotAt.new w1 _ _ _ _)
  have hEs := hE.size
  have hE := hE.trans (hw2 ▸ (Ext.refl w1).alloc _)
  obtain ⟨Bs, hB⟩ : ∃ Bs, w1.heap.size = Bs := ⟨_, rfl⟩
  have hBs : w.heap.size ≤ Bs := hB ▸ hEs
  rw [hB] at HS ⊢
  clear hw2 hB
  refine (within_calls which 8 w2 (by decide) (by decide) Hw.out).mono ?_
  rintro e w' ⟨rfl, rfl⟩
  rw [Hq.out]
  obtain ⟨⟨c0, c1, c2⟩, hf⟩ := HS.out.heads
  have f0 := hf 1
  clear hf
  obtain ⟨wr, hwr⟩ : ∃ wr, w2.setCell ⟨Bs, 1, none⟩ (.int .i64 (65536)) = wr := ⟨_, rfl⟩
  have HS := Lib.hid (hwr ▸ HS.out.setL (65536))
  have hE := hwr ▸ hE.set (a := ⟨Bs, 1, none⟩) hBs (.int .i64 (65536))
  have tokl : True := trivial
  go_wp2_with (have _t := tokl; clear _t; (try rw [hwr]); refine wpList_load_row rfl 24 _ rfl Bs rfl 24 (slotCells (1) ((65536)) (5) (fun _ => 0)) (0, 0) _ HS.out Try.underlying24 rfl (slot_info ..) ?_; clear tokl)
  clear hwr
  refine (Check_calls (1) ((65536)) (5) (fun _ => 0) wr).mono ?_
  rintro e w3 ⟨rfl, hE3⟩
  rw [show checkF (1) ((65536)) (5) (fun _ => 0) = 0 from rfl]
  go_wp2_with fail
  go_ret
  exact ⟨rfl, hE.trans hE3⟩

set_option maxHeartbeats 2000000 in
set_option maxRecDepth 100000 in
theorem EntryBounds_01 (which : Int) (w : World) (hw : -9223372036854775808 ≤ which ∧ which ≤ 9223372036854775807) (hq : which % 8 = 1) :
    Calls Try.prog 4 #[.int .i64 which, .bool false] w fun e w' => e = .returned (.bool true) ∧ Ext w w' := by
  have Hw := Lib.hid hw
  have Hq := Lib.hid hq
  clear hw hq
  go_enter Try.func4, Try.ntmps4
  go_wp2_with fail
  refine (known10_calls w).mono ?_
  rintro e w1 ⟨rfl, hE⟩
  have tokb : True := trivial
  have toks : True := trivial
  go_wp2_with (first | (have _t := tokb; clear _t; refine wpList_built rfl 24 _ rfl (slotCells 1 5 5 (fun _ => 0)) (built3 1 5 5) ?_; clear tokb) | (have _t := toks; clear _t; refine wpList_store_row rfl 24 _ _ rfl _ (slotCells 1 5 5 (fun _ => 0)) rfl rfl 24 (slotCells 0 0 0 (fun _ => 0)) (heap_alloc_new w1 _) (slot_info ..) rfl (slot_one ..) ?_; clear toks))
  obtain ⟨w2, hw2⟩ : ∃ w2, (w1.alloc (.cells (slotCells 0 0 0 (fun _ => 0)) 24)).setRow w1.heap.size (slotCells 1 5 5 (fun _ => 0)) = w2 := ⟨_, rfl⟩
  rw [hw2]
  rw [World.setRow_alloc_new] at hw2
  have HS := Lib.hid (show SlotAt w2 w1.heap.size 1 5 5 (fun _ => 0) by rw [← hw2]; exact SlotAt.new w1 _ _ _ _)
  have hEs := hE.size
  have hE := hE.trans (hw2 ▸ (Ext.refl w1).alloc _)
  obtain ⟨Bs, hB⟩ : ∃ Bs, w1.heap.size = Bs := ⟨_, rfl⟩
  have hBs : w.heap.size ≤ Bs := hB ▸ hEs
  rw [hB] at HS ⊢
  clear hw2 hB
  refine (within_calls which 8 w2 (by decide) (by decide) Hw.out).mono ?_
  rintro e w' ⟨rfl, rfl⟩
  rw [Hq.out]
  obtain ⟨⟨c0, c1, c2⟩, hf⟩ := HS.out.heads
  have f0 := hf 1
  clear hf
  obtain ⟨wr, hwr⟩ : ∃ wr, w2.setCell ⟨Bs, 1, none⟩ (.int .i64 (0)) = wr := ⟨_, rfl⟩
  have HS := Lib.hid (hwr ▸ HS.out.setL (0))
  have hE := hwr ▸ hE.set (a := ⟨Bs, 1, none⟩) hBs (.int .i64 (0))
  have tokl : True := trivial
  go_wp2_with (have _t := tokl; clear _t; (try rw [hwr]); refine wpList_load_row rfl 24 _ rfl Bs rfl 24 (slotCells (1) ((0)) (5) (fun _ => 0)) (0, 0) _ HS.out Try.underlying24 rfl (slot_info ..) ?_; clear tokl)
  clear hwr
  refine (Check_calls (1) ((0)) (5) (fun _ => 0) wr).mono ?_
  rintro e w3 ⟨rfl, hE3⟩
  rw [show checkF (1) ((0)) (5) (fun _ => 0) = 0 from rfl]
  go_wp2_with fail
  go_ret
  exact ⟨rfl, hE.trans hE3⟩

set_option maxHeartbeats 2000000 in
set_option maxRecDepth 100000 in
theorem EntryBounds_02 (which : Int) (w : World) (hw : -9223372036854775808 ≤ which ∧ which ≤ 9223372036854775807) (hq : which % 8 = 2) :
    Calls Try.prog 4 #[.int .i64 which, .bool false] w fun e w' => e = .returned (.bool true) ∧ Ext w w' := by
  have Hw := Lib.hid hw
  have Hq := Lib.hid hq
  clear hw hq
  go_enter Try.func4, Try.ntmps4
  go_wp2_with fail
  refine (known10_calls w).mono ?_
  rintro e w1 ⟨rfl, hE⟩
  have tokb : True := trivial
  have toks : True := trivial
  go_wp2_with (first | (have _t := tokb; clear _t; refine wpList_built rfl 24 _ rfl (slotCells 1 5 5 (fun _ => 0)) (built3 1 5 5) ?_; clear tokb) | (have _t := toks; clear _t; refine wpList_store_row rfl 24 _ _ rfl _ (slotCells 1 5 5 (fun _ => 0)) rfl rfl 24 (slotCells 0 0 0 (fun _ => 0)) (heap_alloc_new w1 _) (slot_info ..) rfl (slot_one ..) ?_; clear toks))
  obtain ⟨w2, hw2⟩ : ∃ w2, (w1.alloc (.cells (slotCells 0 0 0 (fun _ => 0)) 24)).setRow w1.heap.size (slotCells 1 5 5 (fun _ => 0)) = w2 := ⟨_, rfl⟩
  rw [hw2]
  rw [World.setRow_alloc_new] at hw2
  have HS := Lib.hid (show SlotAt w2 w1.heap.size 1 5 5 (fun _ => 0) by rw [← hw2]; exact SlotAt.new w1 _ _ _ _)
  have hEs := hE.size
  have hE := hE.trans (hw2 ▸ (Ext.refl w1).alloc _)
  obtain ⟨Bs, hB⟩ : ∃ Bs, w1.heap.size = Bs := ⟨_, rfl⟩
  have hBs : w.heap.size ≤ Bs := hB ▸ hEs
  rw [hB] at HS ⊢
  clear hw2 hB
  refine (within_calls which 8 w2 (by decide) (by decide) Hw.out).mono ?_
  rintro e w' ⟨rfl, rfl⟩
  rw [Hq.out]
  obtain ⟨⟨c0, c1, c2⟩, hf⟩ := HS.out.heads
  have f0 := hf 2
  clear hf
  obtain ⟨wr, hwr⟩ : ∃ wr, w2.setCell ⟨Bs, 2, none⟩ (.int .i64 (1099511627776)) = wr := ⟨_, rfl⟩
  have HS := Lib.hid (hwr ▸ HS.out.setS (1099511627776))
  have hE := hwr ▸ hE.set (a := ⟨Bs, 2, none⟩) hBs (.int .i64 (1099511627776))
  have tokl : True := trivial
  go_wp2_with (have _t := tokl; clear _t; (try rw [hwr]); refine wpList_load_row rfl 24 _ rfl Bs rfl 24 (slotCells (1) (5) ((1099511627776)) (fun _ => 0)) (0, 0) _ HS.out Try.underlying24 rfl (slot_info ..) ?_; clear tokl)
  clear hwr
  refine (Check_calls (1) (5) ((1099511627776)) (fun _ => 0) wr).mono ?_
  rintro e w3 ⟨rfl, hE3⟩
  rw [show checkF (1) (5) ((1099511627776)) (fun _ => 0) = 0 from rfl]
  go_wp2_with fail
  go_ret
  exact ⟨rfl, hE.trans hE3⟩

set_option maxHeartbeats 2000000 in
set_option maxRecDepth 100000 in
theorem EntryBounds_03 (which : Int) (w : World) (hw : -9223372036854775808 ≤ which ∧ which ≤ 9223372036854775807) (hq : which % 8 = 3) :
    Calls Try.prog 4 #[.int .i64 which, .bool false] w fun e w' => e = .returned (.bool true) ∧ Ext w w' := by
  have Hw := Lib.hid hw
  have Hq := Lib.hid hq
  clear hw hq
  go_enter Try.func4, Try.ntmps4
  go_wp2_with fail
  refine (known10_calls w).mono ?_
  rintro e w1 ⟨rfl, hE⟩
  have tokb : True := trivial
  have toks : True := trivial
  go_wp2_with (first | (have _t := tokb; clear _t; refine wpList_built rfl 24 _ rfl (slotCells 1 5 5 (fun _ => 0)) (built3 1 5 5) ?_; clear tokb) | (have _t := toks; clear _t; refine wpList_store_row rfl 24 _ _ rfl _ (slotCells 1 5 5 (fun _ => 0)) rfl rfl 24 (slotCells 0 0 0 (fun _ => 0)) (heap_alloc_new w1 _) (slot_info ..) rfl (slot_one ..) ?_; clear toks))
  obtain ⟨w2, hw2⟩ : ∃ w2, (w1.alloc (.cells (slotCells 0 0 0 (fun _ => 0)) 24)).setRow w1.heap.size (slotCells 1 5 5 (fun _ => 0)) = w2 := ⟨_, rfl⟩
  rw [hw2]
  rw [World.setRow_alloc_new] at hw2
  have HS := Lib.hid (show SlotAt w2 w1.heap.size 1 5 5 (fun _ => 0) by rw [← hw2]; exact SlotAt.new w1 _ _ _ _)
  have hEs := hE.size
  have hE := hE.trans (hw2 ▸ (Ext.refl w1).alloc _)
  obtain ⟨Bs, hB⟩ : ∃ Bs, w1.heap.size = Bs := ⟨_, rfl⟩
  have hBs : w.heap.size ≤ Bs := hB ▸ hEs
  rw [hB] at HS ⊢
  clear hw2 hB
  refine (within_calls which 8 w2 (by decide) (by decide) Hw.out).mono ?_
  rintro e w' ⟨rfl, rfl⟩
  rw [Hq.out]
  obtain ⟨⟨c0, c1, c2⟩, hf⟩ := HS.out.heads
  have f0 := hf 2
  clear hf
  obtain ⟨wr, hwr⟩ : ∃ wr, w2.setCell ⟨Bs, 2, none⟩ (.int .i64 (1)) = wr := ⟨_, rfl⟩
  have HS := Lib.hid (hwr ▸ HS.out.setS (1))
  have hE := hwr ▸ hE.set (a := ⟨Bs, 2, none⟩) hBs (.int .i64 (1))
  have tokl : True := trivial
  go_wp2_with (have _t := tokl; clear _t; (try rw [hwr]); refine wpList_load_row rfl 24 _ rfl Bs rfl 24 (slotCells (1) (5) ((1)) (fun _ => 0)) (0, 0) _ HS.out Try.underlying24 rfl (slot_info ..) ?_; clear tokl)
  clear hwr
  refine (Check_calls (1) (5) ((1)) (fun _ => 0) wr).mono ?_
  rintro e w3 ⟨rfl, hE3⟩
  rw [show checkF (1) (5) ((1)) (fun _ => 0) = 0 from rfl]
  go_wp2_with fail
  go_ret
  exact ⟨rfl, hE.trans hE3⟩

set_option maxHeartbeats 2000000 in
set_option maxRecDepth 100000 in
theorem EntryBounds_04 (which : Int) (w : World) (hw : -9223372036854775808 ≤ which ∧ which ≤ 9223372036854775807) (hq : which % 8 = 4) :
    Calls Try.prog 4 #[.int .i64 which, .bool false] w fun e w' => e = .returned (.bool true) ∧ Ext w w' := by
  have Hw := Lib.hid hw
  have Hq := Lib.hid hq
  clear hw hq
  go_enter Try.func4, Try.ntmps4
  go_wp2_with fail
  refine (known10_calls w).mono ?_
  rintro e w1 ⟨rfl, hE⟩
  have tokb : True := trivial
  have toks : True := trivial
  go_wp2_with (first | (have _t := tokb; clear _t; refine wpList_built rfl 24 _ rfl (slotCells 1 5 5 (fun _ => 0)) (built3 1 5 5) ?_; clear tokb) | (have _t := toks; clear _t; refine wpList_store_row rfl 24 _ _ rfl _ (slotCells 1 5 5 (fun _ => 0)) rfl rfl 24 (slotCells 0 0 0 (fun _ => 0)) (heap_alloc_new w1 _) (slot_info ..) rfl (slot_one ..) ?_; clear toks))
  obtain ⟨w2, hw2⟩ : ∃ w2, (w1.alloc (.cells (slotCells 0 0 0 (fun _ => 0)) 24)).setRow w1.heap.size (slotCells 1 5 5 (fun _ => 0)) = w2 := ⟨_, rfl⟩
  rw [hw2]
  rw [World.setRow_alloc_new] at hw2
  have HS := Lib.hid (show SlotAt w2 w1.heap.size 1 5 5 (fun _ => 0) by rw [← hw2]; exact SlotAt.new w1 _ _ _ _)
  have hEs := hE.size
  have hE := hE.trans (hw2 ▸ (Ext.refl w1).alloc _)
  obtain ⟨Bs, hB⟩ : ∃ Bs, w1.heap.size = Bs := ⟨_, rfl⟩
  have hBs : w.heap.size ≤ Bs := hB ▸ hEs
  rw [hB] at HS ⊢
  clear hw2 hB
  refine (within_calls which 8 w2 (by decide) (by decide) Hw.out).mono ?_
  rintro e w' ⟨rfl, rfl⟩
  rw [Hq.out]
  obtain ⟨wr, hwr⟩ : ∃ wr, w2.setRow Bs (slotCells 3 0 0 (fun _ => 0)) = wr := ⟨_, rfl⟩
  have H0 := HS
  have HS := Lib.hid (show SlotAt wr Bs 3 0 0 (fun _ => 0) from hwr ▸ row_at HS.out)
  have hE := hwr ▸ hE.row hBs (slotCells 3 0 0 (fun _ => 0))
  have toks : True := trivial
  have tokl : True := trivial
  go_wp2_with (first | (have _t := toks; clear _t; refine wpList_store_row rfl 24 _ _ rfl Bs (slotCells (3) (0) (0) (fun _ => 0)) rfl rfl 24 (slotCells 1 5 5 (fun _ => 0)) H0.out (slot_info ..) rfl (slot_one ..) ?_; clear toks) | (have _t := tokl; clear _t; (try rw [hwr]); refine wpList_load_row rfl 24 _ rfl Bs rfl 24 (slotCells (3) (0) (0) (fun _ => 0)) (0, 0) _ HS.out Try.underlying24 rfl (slot_info ..) ?_; clear tokl))
  clear hwr
  refine (Check_calls (3) (0) (0) (fun _ => 0) wr).mono ?_
  rintro e w3 ⟨rfl, hE3⟩
  rw [show checkF (3) (0) (0) (fun _ => 0) = 0 from rfl]
  go_wp2_with fail
  go_ret
  exact ⟨rfl, hE.trans hE3⟩

set_option maxHeartbeats 2000000 in
set_option maxRecDepth 100000 in
theorem EntryBounds_05 (which : Int) (w : World) (hw : -9223372036854775808 ≤ which ∧ which ≤ 9223372036854775807) (hq : which % 8 = 5) :
    Calls Try.prog 4 #[.int .i64 which, .bool false] w fun e w' => e = .returned (.bool true) ∧ Ext w w' := by
  have Hw := Lib.hid hw
  have Hq := Lib.hid hq
  clear hw hq
  go_enter Try.func4, Try.ntmps4
  go_wp2_with fail
  refine (known10_calls w).mono ?_
  rintro e w1 ⟨rfl, hE⟩
  have tokb : True := trivial
  have toks : True := trivial
  go_wp2_with (first | (have _t := tokb; clear _t; refine wpList_built rfl 24 _ rfl (slotCells 1 5 5 (fun _ => 0)) (built3 1 5 5) ?_; clear tokb) | (have _t := toks; clear _t; refine wpList_store_row rfl 24 _ _ rfl _ (slotCells 1 5 5 (fun _ => 0)) rfl rfl 24 (slotCells 0 0 0 (fun _ => 0)) (heap_alloc_new w1 _) (slot_info ..) rfl (slot_one ..) ?_; clear toks))
  obtain ⟨w2, hw2⟩ : ∃ w2, (w1.alloc (.cells (slotCells 0 0 0 (fun _ => 0)) 24)).setRow w1.heap.size (slotCells 1 5 5 (fun _ => 0)) = w2 := ⟨_, rfl⟩
  rw [hw2]
  rw [World.setRow_alloc_new] at hw2
  have HS := Lib.hid (show SlotAt w2 w1.heap.size 1 5 5 (fun _ => 0) by rw [← hw2]; exact SlotAt.new w1 _ _ _ _)
  have hEs := hE.size
  have hE := hE.trans (hw2 ▸ (Ext.refl w1).alloc _)
  obtain ⟨Bs, hB⟩ : ∃ Bs, w1.heap.size = Bs := ⟨_, rfl⟩
  have hBs : w.heap.size ≤ Bs := hB ▸ hEs
  rw [hB] at HS ⊢
  clear hw2 hB
  refine (within_calls which 8 w2 (by decide) (by decide) Hw.out).mono ?_
  rintro e w' ⟨rfl, rfl⟩
  rw [Hq.out]
  obtain ⟨wr, hwr⟩ : ∃ wr, w2.setRow Bs (slotCells 3 0 0 (fun _ => 0)) = wr := ⟨_, rfl⟩
  have H0 := HS
  have HS := Lib.hid (show SlotAt wr Bs 3 0 0 (fun _ => 0) from hwr ▸ row_at HS.out)
  have hE := hwr ▸ hE.row hBs (slotCells 3 0 0 (fun _ => 0))
  have toks : True := trivial
  have tokl : True := trivial
  go_wp2_with (first | (have _t := toks; clear _t; refine wpList_store_row rfl 24 _ _ rfl Bs (slotCells (3) (0) (0) (fun _ => 0)) rfl rfl 24 (slotCells 1 5 5 (fun _ => 0)) H0.out (slot_info ..) rfl (slot_one ..) ?_; clear toks) | (have _t := tokl; clear _t; (try rw [hwr]); refine wpList_load_row rfl 24 _ rfl Bs rfl 24 (slotCells (3) (0) (0) (fun _ => 0)) (0, 0) _ HS.out Try.underlying24 rfl (slot_info ..) ?_; clear tokl))
  clear hwr
  refine (Check_calls (3) (0) (0) (fun _ => 0) wr).mono ?_
  rintro e w3 ⟨rfl, hE3⟩
  rw [show checkF (3) (0) (0) (fun _ => 0) = 0 from rfl]
  go_wp2_with fail
  go_ret
  exact ⟨rfl, hE.trans hE3⟩

set_option maxHeartbeats 2000000 in
set_option maxRecDepth 100000 in
theorem EntryBounds_06 (which : Int) (w : World) (hw : -9223372036854775808 ≤ which ∧ which ≤ 9223372036854775807) (hq : which % 8 = 6) :
    Calls Try.prog 4 #[.int .i64 which, .bool false] w fun e w' => e = .returned (.bool true) ∧ Ext w w' := by
  have Hw := Lib.hid hw
  have Hq := Lib.hid hq
  clear hw hq
  go_enter Try.func4, Try.ntmps4
  go_wp2_with fail
  refine (known10_calls w).mono ?_
  rintro e w1 ⟨rfl, hE⟩
  have tokb : True := trivial
  have toks : True := trivial
  go_wp2_with (first | (have _t := tokb; clear _t; refine wpList_built rfl 24 _ rfl (slotCells 1 5 5 (fun _ => 0)) (built3 1 5 5) ?_; clear tokb) | (have _t := toks; clear _t; refine wpList_store_row rfl 24 _ _ rfl _ (slotCells 1 5 5 (fun _ => 0)) rfl rfl 24 (slotCells 0 0 0 (fun _ => 0)) (heap_alloc_new w1 _) (slot_info ..) rfl (slot_one ..) ?_; clear toks))
  obtain ⟨w2, hw2⟩ : ∃ w2, (w1.alloc (.cells (slotCells 0 0 0 (fun _ => 0)) 24)).setRow w1.heap.size (slotCells 1 5 5 (fun _ => 0)) = w2 := ⟨_, rfl⟩
  rw [hw2]
  rw [World.setRow_alloc_new] at hw2
  have HS := Lib.hid (show SlotAt w2 w1.heap.size 1 5 5 (fun _ => 0) by rw [← hw2]; exact SlotAt.new w1 _ _ _ _)
  have hEs := hE.size
  have hE := hE.trans (hw2 ▸ (Ext.refl w1).alloc _)
  obtain ⟨Bs, hB⟩ : ∃ Bs, w1.heap.size = Bs := ⟨_, rfl⟩
  have hBs : w.heap.size ≤ Bs := hB ▸ hEs
  rw [hB] at HS ⊢
  clear hw2 hB
  refine (within_calls which 8 w2 (by decide) (by decide) Hw.out).mono ?_
  rintro e w' ⟨rfl, rfl⟩
  rw [Hq.out]
  obtain ⟨wr, hwr⟩ : ∃ wr, w2.setRow Bs (slotCells 0 0 0 (fun _ => 0)) = wr := ⟨_, rfl⟩
  have H0 := HS
  have HS := Lib.hid (show SlotAt wr Bs 0 0 0 (fun _ => 0) from hwr ▸ row_at HS.out)
  have hE := hwr ▸ hE.row hBs (slotCells 0 0 0 (fun _ => 0))
  have toks : True := trivial
  have tokl : True := trivial
  go_wp2_with (first | (have _t := toks; clear _t; refine wpList_store_row rfl 24 _ _ rfl Bs (slotCells (0) (0) (0) (fun _ => 0)) rfl rfl 24 (slotCells 1 5 5 (fun _ => 0)) H0.out (slot_info ..) rfl (slot_one ..) ?_; clear toks) | (have _t := tokl; clear _t; (try rw [hwr]); refine wpList_load_row rfl 24 _ rfl Bs rfl 24 (slotCells (0) (0) (0) (fun _ => 0)) (0, 0) _ HS.out Try.underlying24 rfl (slot_info ..) ?_; clear tokl))
  clear hwr
  refine (Check_calls (0) (0) (0) (fun _ => 0) wr).mono ?_
  rintro e w3 ⟨rfl, hE3⟩
  rw [show checkF (0) (0) (0) (fun _ => 0) = 0 from rfl]
  go_wp2_with fail
  go_ret
  exact ⟨rfl, hE.trans hE3⟩

set_option maxHeartbeats 2000000 in
set_option maxRecDepth 100000 in
theorem EntryBounds_07 (which : Int) (w : World) (hw : -9223372036854775808 ≤ which ∧ which ≤ 9223372036854775807) (hq : which % 8 = 7) :
    Calls Try.prog 4 #[.int .i64 which, .bool false] w fun e w' => e = .returned (.bool true) ∧ Ext w w' := by
  have Hw := Lib.hid hw
  have Hq := Lib.hid hq
  clear hw hq
  go_enter Try.func4, Try.ntmps4
  go_wp2_with fail
  refine (known10_calls w).mono ?_
  rintro e w1 ⟨rfl, hE⟩
  have tokb : True := trivial
  have toks : True := trivial
  go_wp2_with (first | (have _t := tokb; clear _t; refine wpList_built rfl 24 _ rfl (slotCells 1 5 5 (fun _ => 0)) (built3 1 5 5) ?_; clear tokb) | (have _t := toks; clear _t; refine wpList_store_row rfl 24 _ _ rfl _ (slotCells 1 5 5 (fun _ => 0)) rfl rfl 24 (slotCells 0 0 0 (fun _ => 0)) (heap_alloc_new w1 _) (slot_info ..) rfl (slot_one ..) ?_; clear toks))
  obtain ⟨w2, hw2⟩ : ∃ w2, (w1.alloc (.cells (slotCells 0 0 0 (fun _ => 0)) 24)).setRow w1.heap.size (slotCells 1 5 5 (fun _ => 0)) = w2 := ⟨_, rfl⟩
  rw [hw2]
  rw [World.setRow_alloc_new] at hw2
  have HS := Lib.hid (show SlotAt w2 w1.heap.size 1 5 5 (fun _ => 0) by rw [← hw2]; exact SlotAt.new w1 _ _ _ _)
  have hEs := hE.size
  have hE := hE.trans (hw2 ▸ (Ext.refl w1).alloc _)
  obtain ⟨Bs, hB⟩ : ∃ Bs, w1.heap.size = Bs := ⟨_, rfl⟩
  have hBs : w.heap.size ≤ Bs := hB ▸ hEs
  rw [hB] at HS ⊢
  clear hw2 hB
  refine (within_calls which 8 w2 (by decide) (by decide) Hw.out).mono ?_
  rintro e w' ⟨rfl, rfl⟩
  rw [Hq.out]
  obtain ⟨wr, hwr⟩ : ∃ wr, (w2.setRow Bs (slotCells 2 5 5 (fun _ => 0))).setCell ⟨Bs, 3 + 15, none⟩ (.int .u8 0) = wr := ⟨_, rfl⟩
  have H0 := HS
  have HS := Lib.hid (show SlotAt wr Bs 2 5 5 (fun i => if i = 15 then 0 else 0) from hwr ▸ (SlotAt.set (row_at H0.out) 15 (by decide) 0))
  obtain ⟨c0, f0⟩ := SlotAt.byte (row_at (cs := slotCells 2 5 5 (fun _ => 0)) H0.out) 15 (by decide)
  have hE := hwr ▸ (hE.row hBs (slotCells 2 5 5 (fun _ => 0))).set (a := ⟨Bs, 3 + 15, none⟩) hBs (.int .u8 0)
  have toks : True := trivial
  have tokl : True := trivial
  go_wp2_with (first | (have _t := toks; clear _t; refine wpList_store_row rfl 24 _ _ rfl Bs (slotCells (2) (5) (5) (fun _ => 0)) rfl rfl 24 (slotCells 1 5 5 (fun _ => 0)) H0.out (slot_info ..) rfl (slot_one ..) ?_; clear toks) | (have _t := tokl; clear _t; (try rw [hwr]); refine wpList_load_row rfl 24 _ rfl Bs rfl 24 (slotCells (2) (5) (5) (fun i => if i = 15 then 0 else 0)) (0, 0) _ HS.out Try.underlying24 rfl (slot_info ..) ?_; clear tokl))
  clear hwr
  refine (Check_calls (2) (5) (5) (fun i => if i = 15 then 0 else 0) wr).mono ?_
  rintro e w3 ⟨rfl, hE3⟩
  rw [show checkF (2) (5) (5) (fun i => if i = 15 then 0 else 0) = 0 from rfl]
  go_wp2_with fail
  go_ret
  exact ⟨rfl, hE.trans hE3⟩

set_option maxHeartbeats 2000000 in
set_option maxRecDepth 100000 in
theorem EntryBounds_10 (which : Int) (w : World) (hw : -9223372036854775808 ≤ which ∧ which ≤ 9223372036854775807) (hq : which % 8 = 0) :
    Calls Try.prog 4 #[.int .i64 which, .bool true] w fun e w' => e = .returned (.bool true) ∧ Ext w w' := by
  have Hw := Lib.hid hw
  have Hq := Lib.hid hq
  clear hw hq
  go_enter Try.func4, Try.ntmps4
  go_wp2_with fail
  refine (known10_calls w).mono ?_
  rintro e w1 ⟨rfl, hE⟩
  have tokb : True := trivial
  have toks : True := trivial
  go_wp2_with (first | (have _t := tokb; clear _t; refine wpList_built rfl 24 _ rfl (slotCells 1 5 5 (fun _ => 0)) (built3 1 5 5) ?_; clear tokb) | (have _t := toks; clear _t; refine wpList_store_row rfl 24 _ _ rfl _ (slotCells 1 5 5 (fun _ => 0)) rfl rfl 24 (slotCells 0 0 0 (fun _ => 0)) (heap_alloc_new w1 _) (slot_info ..) rfl (slot_one ..) ?_; clear toks))
  obtain ⟨w2, hw2⟩ : ∃ w2, (w1.alloc (.cells (slotCells 0 0 0 (fun _ => 0)) 24)).setRow w1.heap.size (slotCells 1 5 5 (fun _ => 0)) = w2 := ⟨_, rfl⟩
  rw [hw2]
  rw [World.setRow_alloc_new] at hw2
  have HS := Lib.hid (show SlotAt w2 w1.heap.size 1 5 5 (fun _ => 0) by rw [← hw2]; exact SlotAt.new w1 _ _ _ _)
  have hEs := hE.size
  have hE := hE.trans (hw2 ▸ (Ext.refl w1).alloc _)
  obtain ⟨Bs, hB⟩ : ∃ Bs, w1.heap.size = Bs := ⟨_, rfl⟩
  have hBs : w.heap.size ≤ Bs := hB ▸ hEs
  rw [hB] at HS ⊢
  clear hw2 hB
  refine (within_calls which 8 w2 (by decide) (by decide) Hw.out).mono ?_
  rintro e w' ⟨rfl, rfl⟩
  rw [Hq.out]
  obtain ⟨⟨c0, c1, c2⟩, hf⟩ := HS.out.heads
  have f0 := hf 1
  clear hf
  obtain ⟨wr, hwr⟩ : ∃ wr, w2.setCell ⟨Bs, 1, none⟩ (.int .i64 (65537)) = wr := ⟨_, rfl⟩
  have HS := Lib.hid (hwr ▸ HS.out.setL (65537))
  have hE := hwr ▸ hE.set (a := ⟨Bs, 1, none⟩) hBs (.int .i64 (65537))
  have tokl : True := trivial
  go_wp2_with (have _t := tokl; clear _t; (try rw [hwr]); refine wpList_load_row rfl 24 _ rfl Bs rfl 24 (slotCells (1) ((65537)) (5) (fun _ => 0)) (0, 0) _ HS.out Try.underlying24 rfl (slot_info ..) ?_; clear tokl)
  clear hwr
  refine (Check_calls (1) ((65537)) (5) (fun _ => 0) wr).mono ?_
  rintro e w3 ⟨rfl, hE3⟩
  rw [show checkF (1) ((65537)) (5) (fun _ => 0) = 1 from rfl]
  have HS := Lib.hid (HS.out.ext hE3)
  have hE := hE.trans hE3
  clear hE3
  have tokl : True := trivial
  go_wp2_with (have _t := tokl; clear _t; refine wpList_load_rowg (by rfl) 24 _ rfl Bs rfl 24 (slotCells (1) ((65537)) (5) (fun _ => 0)) (0, 0) _ HS.out Try.underlying24 rfl (slot_info ..) ?_; clear tokl)
  refine (Check_calls (1) ((65537)) (5) (fun _ => 0) w3).mono ?_
  rintro e w4 ⟨rfl, hE3⟩
  rw [show checkF (1) ((65537)) (5) (fun _ => 0) = 1 from rfl]
  go_wp2_with fail
  go_ret
  exact ⟨rfl, hE.trans hE3⟩

set_option maxHeartbeats 2000000 in
set_option maxRecDepth 100000 in
theorem EntryBounds_11 (which : Int) (w : World) (hw : -9223372036854775808 ≤ which ∧ which ≤ 9223372036854775807) (hq : which % 8 = 1) :
    Calls Try.prog 4 #[.int .i64 which, .bool true] w fun e w' => e = .returned (.bool true) ∧ Ext w w' := by
  have Hw := Lib.hid hw
  have Hq := Lib.hid hq
  clear hw hq
  go_enter Try.func4, Try.ntmps4
  go_wp2_with fail
  refine (known10_calls w).mono ?_
  rintro e w1 ⟨rfl, hE⟩
  have tokb : True := trivial
  have toks : True := trivial
  go_wp2_with (first | (have _t := tokb; clear _t; refine wpList_built rfl 24 _ rfl (slotCells 1 5 5 (fun _ => 0)) (built3 1 5 5) ?_; clear tokb) | (have _t := toks; clear _t; refine wpList_store_row rfl 24 _ _ rfl _ (slotCells 1 5 5 (fun _ => 0)) rfl rfl 24 (slotCells 0 0 0 (fun _ => 0)) (heap_alloc_new w1 _) (slot_info ..) rfl (slot_one ..) ?_; clear toks))
  obtain ⟨w2, hw2⟩ : ∃ w2, (w1.alloc (.cells (slotCells 0 0 0 (fun _ => 0)) 24)).setRow w1.heap.size (slotCells 1 5 5 (fun _ => 0)) = w2 := ⟨_, rfl⟩
  rw [hw2]
  rw [World.setRow_alloc_new] at hw2
  have HS := Lib.hid (show SlotAt w2 w1.heap.size 1 5 5 (fun _ => 0) by rw [← hw2]; exact SlotAt.new w1 _ _ _ _)
  have hEs := hE.size
  have hE := hE.trans (hw2 ▸ (Ext.refl w1).alloc _)
  obtain ⟨Bs, hB⟩ : ∃ Bs, w1.heap.size = Bs := ⟨_, rfl⟩
  have hBs : w.heap.size ≤ Bs := hB ▸ hEs
  rw [hB] at HS ⊢
  clear hw2 hB
  refine (within_calls which 8 w2 (by decide) (by decide) Hw.out).mono ?_
  rintro e w' ⟨rfl, rfl⟩
  rw [Hq.out]
  obtain ⟨⟨c0, c1, c2⟩, hf⟩ := HS.out.heads
  have f0 := hf 1
  clear hf
  obtain ⟨wr, hwr⟩ : ∃ wr, w2.setCell ⟨Bs, 1, none⟩ (.int .i64 (-1)) = wr := ⟨_, rfl⟩
  have HS := Lib.hid (hwr ▸ HS.out.setL (-1))
  have hE := hwr ▸ hE.set (a := ⟨Bs, 1, none⟩) hBs (.int .i64 (-1))
  have tokl : True := trivial
  go_wp2_with (have _t := tokl; clear _t; (try rw [hwr]); refine wpList_load_row rfl 24 _ rfl Bs rfl 24 (slotCells (1) ((-1)) (5) (fun _ => 0)) (0, 0) _ HS.out Try.underlying24 rfl (slot_info ..) ?_; clear tokl)
  clear hwr
  refine (Check_calls (1) ((-1)) (5) (fun _ => 0) wr).mono ?_
  rintro e w3 ⟨rfl, hE3⟩
  rw [show checkF (1) ((-1)) (5) (fun _ => 0) = 1 from rfl]
  have HS := Lib.hid (HS.out.ext hE3)
  have hE := hE.trans hE3
  clear hE3
  have tokl : True := trivial
  go_wp2_with (have _t := tokl; clear _t; refine wpList_load_rowg (by rfl) 24 _ rfl Bs rfl 24 (slotCells (1) ((-1)) (5) (fun _ => 0)) (0, 0) _ HS.out Try.underlying24 rfl (slot_info ..) ?_; clear tokl)
  refine (Check_calls (1) ((-1)) (5) (fun _ => 0) w3).mono ?_
  rintro e w4 ⟨rfl, hE3⟩
  rw [show checkF (1) ((-1)) (5) (fun _ => 0) = 1 from rfl]
  go_wp2_with fail
  go_ret
  exact ⟨rfl, hE.trans hE3⟩

set_option maxHeartbeats 2000000 in
set_option maxRecDepth 100000 in
theorem EntryBounds_12 (which : Int) (w : World) (hw : -9223372036854775808 ≤ which ∧ which ≤ 9223372036854775807) (hq : which % 8 = 2) :
    Calls Try.prog 4 #[.int .i64 which, .bool true] w fun e w' => e = .returned (.bool true) ∧ Ext w w' := by
  have Hw := Lib.hid hw
  have Hq := Lib.hid hq
  clear hw hq
  go_enter Try.func4, Try.ntmps4
  go_wp2_with fail
  refine (known10_calls w).mono ?_
  rintro e w1 ⟨rfl, hE⟩
  have tokb : True := trivial
  have toks : True := trivial
  go_wp2_with (first | (have _t := tokb; clear _t; refine wpList_built rfl 24 _ rfl (slotCells 1 5 5 (fun _ => 0)) (built3 1 5 5) ?_; clear tokb) | (have _t := toks; clear _t; refine wpList_store_row rfl 24 _ _ rfl _ (slotCells 1 5 5 (fun _ => 0)) rfl rfl 24 (slotCells 0 0 0 (fun _ => 0)) (heap_alloc_new w1 _) (slot_info ..) rfl (slot_one ..) ?_; clear toks))
  obtain ⟨w2, hw2⟩ : ∃ w2, (w1.alloc (.cells (slotCells 0 0 0 (fun _ => 0)) 24)).setRow w1.heap.size (slotCells 1 5 5 (fun _ => 0)) = w2 := ⟨_, rfl⟩
  rw [hw2]
  rw [World.setRow_alloc_new] at hw2
  have HS := Lib.hid (show SlotAt w2 w1.heap.size 1 5 5 (fun _ => 0) by rw [← hw2]; exact SlotAt.new w1 _ _ _ _)
  have hEs := hE.size
  have hE := hE.trans (hw2 ▸ (Ext.refl w1).alloc _)
  obtain ⟨Bs, hB⟩ : ∃ Bs, w1.heap.size = Bs := ⟨_, rfl⟩
  have hBs : w.heap.size ≤ Bs := hB ▸ hEs
  rw [hB] at HS ⊢
  clear hw2 hB
  refine (within_calls which 8 w2 (by decide) (by decide) Hw.out).mono ?_
  rintro e w' ⟨rfl, rfl⟩
  rw [Hq.out]
  obtain ⟨⟨c0, c1, c2⟩, hf⟩ := HS.out.heads
  have f0 := hf 2
  clear hf
  obtain ⟨wr, hwr⟩ : ∃ wr, w2.setCell ⟨Bs, 2, none⟩ (.int .i64 (1099511627777)) = wr := ⟨_, rfl⟩
  have HS := Lib.hid (hwr ▸ HS.out.setS (1099511627777))
  have hE := hwr ▸ hE.set (a := ⟨Bs, 2, none⟩) hBs (.int .i64 (1099511627777))
  have tokl : True := trivial
  go_wp2_with (have _t := tokl; clear _t; (try rw [hwr]); refine wpList_load_row rfl 24 _ rfl Bs rfl 24 (slotCells (1) (5) ((1099511627777)) (fun _ => 0)) (0, 0) _ HS.out Try.underlying24 rfl (slot_info ..) ?_; clear tokl)
  clear hwr
  refine (Check_calls (1) (5) ((1099511627777)) (fun _ => 0) wr).mono ?_
  rintro e w3 ⟨rfl, hE3⟩
  rw [show checkF (1) (5) ((1099511627777)) (fun _ => 0) = 1 from rfl]
  have HS := Lib.hid (HS.out.ext hE3)
  have hE := hE.trans hE3
  clear hE3
  have tokl : True := trivial
  go_wp2_with (have _t := tokl; clear _t; refine wpList_load_rowg (by rfl) 24 _ rfl Bs rfl 24 (slotCells (1) (5) ((1099511627777)) (fun _ => 0)) (0, 0) _ HS.out Try.underlying24 rfl (slot_info ..) ?_; clear tokl)
  refine (Check_calls (1) (5) ((1099511627777)) (fun _ => 0) w3).mono ?_
  rintro e w4 ⟨rfl, hE3⟩
  rw [show checkF (1) (5) ((1099511627777)) (fun _ => 0) = 1 from rfl]
  go_wp2_with fail
  go_ret
  exact ⟨rfl, hE.trans hE3⟩

set_option maxHeartbeats 2000000 in
set_option maxRecDepth 100000 in
theorem EntryBounds_13 (which : Int) (w : World) (hw : -9223372036854775808 ≤ which ∧ which ≤ 9223372036854775807) (hq : which % 8 = 3) :
    Calls Try.prog 4 #[.int .i64 which, .bool true] w fun e w' => e = .returned (.bool true) ∧ Ext w w' := by
  have Hw := Lib.hid hw
  have Hq := Lib.hid hq
  clear hw hq
  go_enter Try.func4, Try.ntmps4
  go_wp2_with fail
  refine (known10_calls w).mono ?_
  rintro e w1 ⟨rfl, hE⟩
  have tokb : True := trivial
  have toks : True := trivial
  go_wp2_with (first | (have _t := tokb; clear _t; refine wpList_built rfl 24 _ rfl (slotCells 1 5 5 (fun _ => 0)) (built3 1 5 5) ?_; clear tokb) | (have _t := toks; clear _t; refine wpList_store_row rfl 24 _ _ rfl _ (slotCells 1 5 5 (fun _ => 0)) rfl rfl 24 (slotCells 0 0 0 (fun _ => 0)) (heap_alloc_new w1 _) (slot_info ..) rfl (slot_one ..) ?_; clear toks))
  obtain ⟨w2, hw2⟩ : ∃ w2, (w1.alloc (.cells (slotCells 0 0 0 (fun _ => 0)) 24)).setRow w1.heap.size (slotCells 1 5 5 (fun _ => 0)) = w2 := ⟨_, rfl⟩
  rw [hw2]
  rw [World.setRow_alloc_new] at hw2
  have HS := Lib.hid (show SlotAt w2 w1.heap.size 1 5 5 (fun _ => 0) by rw [← hw2]; exact SlotAt.new w1 _ _ _ _)
  have hEs := hE.size
  have hE := hE.trans (hw2 ▸ (Ext.refl w1).alloc _)
  obtain ⟨Bs, hB⟩ : ∃ Bs, w1.heap.size = Bs := ⟨_, rfl⟩
  have hBs : w.heap.size ≤ Bs := hB ▸ hEs
  rw [hB] at HS ⊢
  clear hw2 hB
  refine (within_calls which 8 w2 (by decide) (by decide) Hw.out).mono ?_
  rintro e w' ⟨rfl, rfl⟩
  rw [Hq.out]
  obtain ⟨⟨c0, c1, c2⟩, hf⟩ := HS.out.heads
  have f0 := hf 2
  clear hf
  obtain ⟨wr, hwr⟩ : ∃ wr, w2.setCell ⟨Bs, 2, none⟩ (.int .i64 (0)) = wr := ⟨_, rfl⟩
  have HS := Lib.hid (hwr ▸ HS.out.setS (0))
  have hE := hwr ▸ hE.set (a := ⟨Bs, 2, none⟩) hBs (.int .i64 (0))
  have tokl : True := trivial
  go_wp2_with (have _t := tokl; clear _t; (try rw [hwr]); refine wpList_load_row rfl 24 _ rfl Bs rfl 24 (slotCells (1) (5) ((0)) (fun _ => 0)) (0, 0) _ HS.out Try.underlying24 rfl (slot_info ..) ?_; clear tokl)
  clear hwr
  refine (Check_calls (1) (5) ((0)) (fun _ => 0) wr).mono ?_
  rintro e w3 ⟨rfl, hE3⟩
  rw [show checkF (1) (5) ((0)) (fun _ => 0) = 1 from rfl]
  have HS := Lib.hid (HS.out.ext hE3)
  have hE := hE.trans hE3
  clear hE3
  have tokl : True := trivial
  go_wp2_with (have _t := tokl; clear _t; refine wpList_load_rowg (by rfl) 24 _ rfl Bs rfl 24 (slotCells (1) (5) ((0)) (fun _ => 0)) (0, 0) _ HS.out Try.underlying24 rfl (slot_info ..) ?_; clear tokl)
  refine (Check_calls (1) (5) ((0)) (fun _ => 0) w3).mono ?_
  rintro e w4 ⟨rfl, hE3⟩
  rw [show checkF (1) (5) ((0)) (fun _ => 0) = 1 from rfl]
  go_wp2_with fail
  go_ret
  exact ⟨rfl, hE.trans hE3⟩

set_option maxHeartbeats 2000000 in
set_option maxRecDepth 100000 in
theorem EntryBounds_14 (which : Int) (w : World) (hw : -9223372036854775808 ≤ which ∧ which ≤ 9223372036854775807) (hq : which % 8 = 4) :
    Calls Try.prog 4 #[.int .i64 which, .bool true] w fun e w' => e = .returned (.bool true) ∧ Ext w w' := by
  have Hw := Lib.hid hw
  have Hq := Lib.hid hq
  clear hw hq
  go_enter Try.func4, Try.ntmps4
  go_wp2_with fail
  refine (known10_calls w).mono ?_
  rintro e w1 ⟨rfl, hE⟩
  have tokb : True := trivial
  have toks : True := trivial
  go_wp2_with (first | (have _t := tokb; clear _t; refine wpList_built rfl 24 _ rfl (slotCells 1 5 5 (fun _ => 0)) (built3 1 5 5) ?_; clear tokb) | (have _t := toks; clear _t; refine wpList_store_row rfl 24 _ _ rfl _ (slotCells 1 5 5 (fun _ => 0)) rfl rfl 24 (slotCells 0 0 0 (fun _ => 0)) (heap_alloc_new w1 _) (slot_info ..) rfl (slot_one ..) ?_; clear toks))
  obtain ⟨w2, hw2⟩ : ∃ w2, (w1.alloc (.cells (slotCells 0 0 0 (fun _ => 0)) 24)).setRow w1.heap.size (slotCells 1 5 5 (fun _ => 0)) = w2 := ⟨_, rfl⟩
  rw [hw2]
  rw [World.setRow_alloc_new] at hw2
  have HS := Lib.hid (show SlotAt w2 w1.heap.size 1 5 5 (fun _ => 0) by rw [← hw2]; exact SlotAt.new w1 _ _ _ _)
  have hEs := hE.size
  have hE := hE.trans (hw2 ▸ (Ext.refl w1).alloc _)
  obtain ⟨Bs, hB⟩ : ∃ Bs, w1.heap.size = Bs := ⟨_, rfl⟩
  have hBs : w.heap.size ≤ Bs := hB ▸ hEs
  rw [hB] at HS ⊢
  clear hw2 hB
  refine (within_calls which 8 w2 (by decide) (by decide) Hw.out).mono ?_
  rintro e w' ⟨rfl, rfl⟩
  rw [Hq.out]
  obtain ⟨wr, hwr⟩ : ∃ wr, w2.setRow Bs (slotCells 4 0 0 (fun _ => 0)) = wr := ⟨_, rfl⟩
  have H0 := HS
  have HS := Lib.hid (show SlotAt wr Bs 4 0 0 (fun _ => 0) from hwr ▸ row_at HS.out)
  have hE := hwr ▸ hE.row hBs (slotCells 4 0 0 (fun _ => 0))
  have toks : True := trivial
  have tokl : True := trivial
  go_wp2_with (first | (have _t := toks; clear _t; refine wpList_store_row rfl 24 _ _ rfl Bs (slotCells (4) (0) (0) (fun _ => 0)) rfl rfl 24 (slotCells 1 5 5 (fun _ => 0)) H0.out (slot_info ..) rfl (slot_one ..) ?_; clear toks) | (have _t := tokl; clear _t; (try rw [hwr]); refine wpList_load_row rfl 24 _ rfl Bs rfl 24 (slotCells (4) (0) (0) (fun _ => 0)) (0, 0) _ HS.out Try.underlying24 rfl (slot_info ..) ?_; clear tokl))
  clear hwr
  refine (Check_calls (4) (0) (0) (fun _ => 0) wr).mono ?_
  rintro e w3 ⟨rfl, hE3⟩
  rw [show checkF (4) (0) (0) (fun _ => 0) = 1 from rfl]
  have HS := Lib.hid (HS.out.ext hE3)
  have hE := hE.trans hE3
  clear hE3
  have tokl : True := trivial
  go_wp2_with (have _t := tokl; clear _t; refine wpList_load_rowg (by rfl) 24 _ rfl Bs rfl 24 (slotCells (4) (0) (0) (fun _ => 0)) (0, 0) _ HS.out Try.underlying24 rfl (slot_info ..) ?_; clear tokl)
  refine (Check_calls (4) (0) (0) (fun _ => 0) w3).mono ?_
  rintro e w4 ⟨rfl, hE3⟩
  rw [show checkF (4) (0) (0) (fun _ => 0) = 1 from rfl]
  go_wp2_with fail
  go_ret
  exact ⟨rfl, hE.trans hE3⟩

set_option maxHeartbeats 2000000 in
set_option maxRecDepth 100000 in
theorem EntryBounds_15 (which : Int) (w : World) (hw : -9223372036854775808 ≤ which ∧ which ≤ 9223372036854775807) (hq : which % 8 = 5) :
    Calls Try.prog 4 #[.int .i64 which, .bool true] w fun e w' => e = .returned (.bool true) ∧ Ext w w' := by
  have Hw := Lib.hid hw
  have Hq := Lib.hid hq
  clear hw hq
  go_enter Try.func4, Try.ntmps4
  go_wp2_with fail
  refine (known10_calls w).mono ?_
  rintro e w1 ⟨rfl, hE⟩
  have tokb : True := trivial
  have toks : True := trivial
  go_wp2_with (first | (have _t := tokb; clear _t; refine wpList_built rfl 24 _ rfl (slotCells 1 5 5 (fun _ => 0)) (built3 1 5 5) ?_; clear tokb) | (have _t := toks; clear _t; refine wpList_store_row rfl 24 _ _ rfl _ (slotCells 1 5 5 (fun _ => 0)) rfl rfl 24 (slotCells 0 0 0 (fun _ => 0)) (heap_alloc_new w1 _) (slot_info ..) rfl (slot_one ..) ?_; clear toks))
  obtain ⟨w2, hw2⟩ : ∃ w2, (w1.alloc (.cells (slotCells 0 0 0 (fun _ => 0)) 24)).setRow w1.heap.size (slotCells 1 5 5 (fun _ => 0)) = w2 := ⟨_, rfl⟩
  rw [hw2]
  rw [World.setRow_alloc_new] at hw2
  have HS := Lib.hid (show SlotAt w2 w1.heap.size 1 5 5 (fun _ => 0) by rw [← hw2]; exact SlotAt.new w1 _ _ _ _)
  have hEs := hE.size
  have hE := hE.trans (hw2 ▸ (Ext.refl w1).alloc _)
  obtain ⟨Bs, hB⟩ : ∃ Bs, w1.heap.size = Bs := ⟨_, rfl⟩
  have hBs : w.heap.size ≤ Bs := hB ▸ hEs
  rw [hB] at HS ⊢
  clear hw2 hB
  refine (within_calls which 8 w2 (by decide) (by decide) Hw.out).mono ?_
  rintro e w' ⟨rfl, rfl⟩
  rw [Hq.out]
  obtain ⟨wr, hwr⟩ : ∃ wr, w2.setRow Bs (slotCells 3 0 1 (fun _ => 0)) = wr := ⟨_, rfl⟩
  have H0 := HS
  have HS := Lib.hid (show SlotAt wr Bs 3 0 1 (fun _ => 0) from hwr ▸ row_at HS.out)
  have hE := hwr ▸ hE.row hBs (slotCells 3 0 1 (fun _ => 0))
  have toks : True := trivial
  have tokl : True := trivial
  go_wp2_with (first | (have _t := toks; clear _t; refine wpList_store_row rfl 24 _ _ rfl Bs (slotCells (3) (0) (1) (fun _ => 0)) rfl rfl 24 (slotCells 1 5 5 (fun _ => 0)) H0.out (slot_info ..) rfl (slot_one ..) ?_; clear toks) | (have _t := tokl; clear _t; (try rw [hwr]); refine wpList_load_row rfl 24 _ rfl Bs rfl 24 (slotCells (3) (0) (1) (fun _ => 0)) (0, 0) _ HS.out Try.underlying24 rfl (slot_info ..) ?_; clear tokl))
  clear hwr
  refine (Check_calls (3) (0) (1) (fun _ => 0) wr).mono ?_
  rintro e w3 ⟨rfl, hE3⟩
  rw [show checkF (3) (0) (1) (fun _ => 0) = 1 from rfl]
  have HS := Lib.hid (HS.out.ext hE3)
  have hE := hE.trans hE3
  clear hE3
  have tokl : True := trivial
  go_wp2_with (have _t := tokl; clear _t; refine wpList_load_rowg (by rfl) 24 _ rfl Bs rfl 24 (slotCells (3) (0) (1) (fun _ => 0)) (0, 0) _ HS.out Try.underlying24 rfl (slot_info ..) ?_; clear tokl)
  refine (Check_calls (3) (0) (1) (fun _ => 0) w3).mono ?_
  rintro e w4 ⟨rfl, hE3⟩
  rw [show checkF (3) (0) (1) (fun _ => 0) = 1 from rfl]
  go_wp2_with fail
  go_ret
  exact ⟨rfl, hE.trans hE3⟩

set_option maxHeartbeats 2000000 in
set_option maxRecDepth 100000 in
theorem EntryBounds_16 (which : Int) (w : World) (hw : -9223372036854775808 ≤ which ∧ which ≤ 9223372036854775807) (hq : which % 8 = 6) :
    Calls Try.prog 4 #[.int .i64 which, .bool true] w fun e w' => e = .returned (.bool true) ∧ Ext w w' := by
  have Hw := Lib.hid hw
  have Hq := Lib.hid hq
  clear hw hq
  go_enter Try.func4, Try.ntmps4
  go_wp2_with fail
  refine (known10_calls w).mono ?_
  rintro e w1 ⟨rfl, hE⟩
  have tokb : True := trivial
  have toks : True := trivial
  go_wp2_with (first | (have _t := tokb; clear _t; refine wpList_built rfl 24 _ rfl (slotCells 1 5 5 (fun _ => 0)) (built3 1 5 5) ?_; clear tokb) | (have _t := toks; clear _t; refine wpList_store_row rfl 24 _ _ rfl _ (slotCells 1 5 5 (fun _ => 0)) rfl rfl 24 (slotCells 0 0 0 (fun _ => 0)) (heap_alloc_new w1 _) (slot_info ..) rfl (slot_one ..) ?_; clear toks))
  obtain ⟨w2, hw2⟩ : ∃ w2, (w1.alloc (.cells (slotCells 0 0 0 (fun _ => 0)) 24)).setRow w1.heap.size (slotCells 1 5 5 (fun _ => 0)) = w2 := ⟨_, rfl⟩
  rw [hw2]
  rw [World.setRow_alloc_new] at hw2
  have HS := Lib.hid (show SlotAt w2 w1.heap.size 1 5 5 (fun _ => 0) by rw [← hw2]; exact SlotAt.new w1 _ _ _ _)
  have hEs := hE.size
  have hE := hE.trans (hw2 ▸ (Ext.refl w1).alloc _)
  obtain ⟨Bs, hB⟩ : ∃ Bs, w1.heap.size = Bs := ⟨_, rfl⟩
  have hBs : w.heap.size ≤ Bs := hB ▸ hEs
  rw [hB] at HS ⊢
  clear hw2 hB
  refine (within_calls which 8 w2 (by decide) (by decide) Hw.out).mono ?_
  rintro e w' ⟨rfl, rfl⟩
  rw [Hq.out]
  obtain ⟨wr, hwr⟩ : ∃ wr, w2.setRow Bs (slotCells 0 1 0 (fun _ => 0)) = wr := ⟨_, rfl⟩
  have H0 := HS
  have HS := Lib.hid (show SlotAt wr Bs 0 1 0 (fun _ => 0) from hwr ▸ row_at HS.out)
  have hE := hwr ▸ hE.row hBs (slotCells 0 1 0 (fun _ => 0))
  have toks : True := trivial
  have tokl : True := trivial
  go_wp2_with (first | (have _t := toks; clear _t; refine wpList_store_row rfl 24 _ _ rfl Bs (slotCells (0) (1) (0) (fun _ => 0)) rfl rfl 24 (slotCells 1 5 5 (fun _ => 0)) H0.out (slot_info ..) rfl (slot_one ..) ?_; clear toks) | (have _t := tokl; clear _t; (try rw [hwr]); refine wpList_load_row rfl 24 _ rfl Bs rfl 24 (slotCells (0) (1) (0) (fun _ => 0)) (0, 0) _ HS.out Try.underlying24 rfl (slot_info ..) ?_; clear tokl))
  clear hwr
  refine (Check_calls (0) (1) (0) (fun _ => 0) wr).mono ?_
  rintro e w3 ⟨rfl, hE3⟩
  rw [show checkF (0) (1) (0) (fun _ => 0) = 1 from rfl]
  have HS := Lib.hid (HS.out.ext hE3)
  have hE := hE.trans hE3
  clear hE3
  have tokl : True := trivial
  go_wp2_with (have _t := tokl; clear _t; refine wpList_load_rowg (by rfl) 24 _ rfl Bs rfl 24 (slotCells (0) (1) (0) (fun _ => 0)) (0, 0) _ HS.out Try.underlying24 rfl (slot_info ..) ?_; clear tokl)
  refine (Check_calls (0) (1) (0) (fun _ => 0) w3).mono ?_
  rintro e w4 ⟨rfl, hE3⟩
  rw [show checkF (0) (1) (0) (fun _ => 0) = 1 from rfl]
  go_wp2_with fail
  go_ret
  exact ⟨rfl, hE.trans hE3⟩

set_option maxHeartbeats 2000000 in
set_option maxRecDepth 100000 in
theorem EntryBounds_17 (which : Int) (w : World) (hw : -9223372036854775808 ≤ which ∧ which ≤ 9223372036854775807) (hq : which % 8 = 7) :
    Calls Try.prog 4 #[.int .i64 which, .bool true] w fun e w' => e = .returned (.bool true) ∧ Ext w w' := by
  have Hw := Lib.hid hw
  have Hq := Lib.hid hq
  clear hw hq
  go_enter Try.func4, Try.ntmps4
  go_wp2_with fail
  refine (known10_calls w).mono ?_
  rintro e w1 ⟨rfl, hE⟩
  have tokb : True := trivial
  have toks : True := trivial
  go_wp2_with (first | (have _t := tokb; clear _t; refine wpList_built rfl 24 _ rfl (slotCells 1 5 5 (fun _ => 0)) (built3 1 5 5) ?_; clear tokb) | (have _t := toks; clear _t; refine wpList_store_row rfl 24 _ _ rfl _ (slotCells 1 5 5 (fun _ => 0)) rfl rfl 24 (slotCells 0 0 0 (fun _ => 0)) (heap_alloc_new w1 _) (slot_info ..) rfl (slot_one ..) ?_; clear toks))
  obtain ⟨w2, hw2⟩ : ∃ w2, (w1.alloc (.cells (slotCells 0 0 0 (fun _ => 0)) 24)).setRow w1.heap.size (slotCells 1 5 5 (fun _ => 0)) = w2 := ⟨_, rfl⟩
  rw [hw2]
  rw [World.setRow_alloc_new] at hw2
  have HS := Lib.hid (show SlotAt w2 w1.heap.size 1 5 5 (fun _ => 0) by rw [← hw2]; exact SlotAt.new w1 _ _ _ _)
  have hEs := hE.size
  have hE := hE.trans (hw2 ▸ (Ext.refl w1).alloc _)
  obtain ⟨Bs, hB⟩ : ∃ Bs, w1.heap.size = Bs := ⟨_, rfl⟩
  have hBs : w.heap.size ≤ Bs := hB ▸ hEs
  rw [hB] at HS ⊢
  clear hw2 hB
  refine (within_calls which 8 w2 (by decide) (by decide) Hw.out).mono ?_
  rintro e w' ⟨rfl, rfl⟩
  rw [Hq.out]
  obtain ⟨wr, hwr⟩ : ∃ wr, (w2.setRow Bs (slotCells 2 5 5 (fun _ => 0))).setCell ⟨Bs, 3 + 15, none⟩ (.int .u8 1) = wr := ⟨_, rfl⟩
  have H0 := HS
  have HS := Lib.hid (show SlotAt wr Bs 2 5 5 (fun i => if i = 15 then 1 else 0) from hwr ▸ (SlotAt.set (row_at H0.out) 15 (by decide) 1))
  obtain ⟨c0, f0⟩ := SlotAt.byte (row_at (cs := slotCells 2 5 5 (fun _ => 0)) H0.out) 15 (by decide)
  have hE := hwr ▸ (hE.row hBs (slotCells 2 5 5 (fun _ => 0))).set (a := ⟨Bs, 3 + 15, none⟩) hBs (.int .u8 1)
  have toks : True := trivial
  have tokl : True := trivial
  go_wp2_with (first | (have _t := toks; clear _t; refine wpList_store_row rfl 24 _ _ rfl Bs (slotCells (2) (5) (5) (fun _ => 0)) rfl rfl 24 (slotCells 1 5 5 (fun _ => 0)) H0.out (slot_info ..) rfl (slot_one ..) ?_; clear toks) | (have _t := tokl; clear _t; (try rw [hwr]); refine wpList_load_row rfl 24 _ rfl Bs rfl 24 (slotCells (2) (5) (5) (fun i => if i = 15 then 1 else 0)) (0, 0) _ HS.out Try.underlying24 rfl (slot_info ..) ?_; clear tokl))
  clear hwr
  refine (Check_calls (2) (5) (5) (fun i => if i = 15 then 1 else 0) wr).mono ?_
  rintro e w3 ⟨rfl, hE3⟩
  rw [show checkF (2) (5) (5) (fun i => if i = 15 then 1 else 0) = 1 from rfl]
  have HS := Lib.hid (HS.out.ext hE3)
  have hE := hE.trans hE3
  clear hE3
  have tokl : True := trivial
  go_wp2_with (have _t := tokl; clear _t; refine wpList_load_rowg (by rfl) 24 _ rfl Bs rfl 24 (slotCells (2) (5) (5) (fun i => if i = 15 then 1 else 0)) (0, 0) _ HS.out Try.underlying24 rfl (slot_info ..) ?_; clear tokl)
  refine (Check_calls (2) (5) (5) (fun i => if i = 15 then 1 else 0) w3).mono ?_
  rintro e w4 ⟨rfl, hE3⟩
  rw [show checkF (2) (5) (5) (fun i => if i = 15 then 1 else 0) = 1 from rfl]
  go_wp2_with fail
  go_ret
  exact ⟨rfl, hE.trans hE3⟩

theorem EntryBounds_walk (which : Int) (above : Bool) (w : World) (hw : (Lit.int .i64 which).wf = true) :
    Calls Try.prog 4 #[.int .i64 which, .bool above] w fun e w' => e = .returned (.bool true) ∧ Ext w w' := by
  have h := bounds_i64 hw
  have hq : which % 8 = 0 ∨ which % 8 = 1 ∨ which % 8 = 2 ∨ which % 8 = 3 ∨ which % 8 = 4 ∨ which % 8 = 5 ∨ which % 8 = 6 ∨ which % 8 = 7 := by omega
  cases above
  · rcases hq with q | q | q | q | q | q | q | q
    · exact EntryBounds_00 which w h q
    · exact EntryBounds_01 which w h q
    · exact EntryBounds_02 which w h q
    · exact EntryBounds_03 which w h q
    · exact EntryBounds_04 which w h q
    · exact EntryBounds_05 which w h q
    · exact EntryBounds_06 which w h q
    · exact EntryBounds_07 which w h q
  · rcases hq with q | q | q | q | q | q | q | q
    · exact EntryBounds_10 which w h q
    · exact EntryBounds_11 which w h q
    · exact EntryBounds_12 which w h q
    · exact EntryBounds_13 which w h q
    · exact EntryBounds_14 which w h q
    · exact EntryBounds_15 which w h q
    · exact EntryBounds_16 which w h q
    · exact EntryBounds_17 which w h q
end Go.Proofs.Ytmbjebdkhcpclaa
