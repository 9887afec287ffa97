/-
  The chapter's example: no bytes are cut bytes.
-/
import Derived.Test.YtmbjebdkhcpclaaEPa
set_option linter.unusedSimpArgs false
set_option linter.unusedVariables false
namespace Go.Proofs.Ytmbjebdkhcpclaa
open Go.RowKit

theorem parsed_nil : parsed [] = .tuple #[headVal 0 0 0 0, slotVal 0 0 0 (fun _ => 0), .int .i64 3] := rfl

set_option maxHeartbeats 1000000 in
set_option maxRecDepth 100000 in
theorem known10_calls (w : World) : Calls Try.prog 10 #[] w fun e w' => e = .returned (.bool true) ∧ Ext w w' := by
  go_enter Try.func10, Try.ntmps10
  go_wp2_with fail
  refine (Parse_calls (.slice none 0 0) [] w (by simp) ⟨none, 0, rfl, Nat.le_refl _, Nat.zero_le _, fun hne => absurd rfl hne, fun _ => ⟨rfl, rfl⟩⟩ (by simp)).mono ?_
  rintro e w1 ⟨rfl, hE1⟩
  rw [parsed_nil]
  obtain ⟨Bh, hBh⟩ : ∃ Bh, w1.heap.size = Bh := ⟨_, rfl⟩
  have z0 : HeadAt ((w1.alloc (.cells (headCells 0 0 0 0) 30)).alloc (.cells (slotCells 0 0 0 (fun _ => 0)) 24)) Bh 0 0 0 0 := by
    rw [← hBh]; exact (HeadAt.new w1 0 0 0 0).ext ((Ext.refl _).alloc _)
  have z1 : SlotAt ((w1.alloc (.cells (headCells 0 0 0 0) 30)).alloc (.cells (slotCells 0 0 0 (fun _ => 0)) 24)) (Bh + 1) 0 0 0 (fun _ => 0) := by
    rw [← hBh]; have := SlotAt.new (w1.alloc (.cells (headCells 0 0 0 0) 30)) 0 0 0 (fun _ => 0); rwa [World.size_alloc] at this
  have hE2 : Ext w1 ((w1.alloc (.cells (headCells 0 0 0 0) 30)).alloc (.cells (slotCells 0 0 0 (fun _ => 0)) 24)) := ((Ext.refl w1).alloc _).alloc _
  have Z0 := Lib.hid z0
  have Z1 := Lib.hid z1
  have Hb := Lib.hid hBh
  clear z0 z1 hBh
  have tok : True := trivial
  have tok2 : True := trivial
  go_wp2_with (first | (have _t := tok; clear _t; rw [Hb.out]; refine wpList_store_row rfl 30 _ _ rfl Bh (headCells 0 0 0 0) rfl rfl 30 (headCells 0 0 0 0) Z0.out (head_info ..) rfl (head_one ..) ?_; clear tok) | (have _t := tok2; clear _t; refine wpList_store_row rfl 24 _ _ rfl (Bh + 1) (slotCells 0 0 0 (fun _ => 0)) rfl rfl 24 (slotCells 0 0 0 (fun _ => 0)) (row_keep Z1.out (by omega)) (slot_info ..) rfl (slot_one ..) ?_; clear tok2))
  go_ret
  exact ⟨rfl, hE1.trans ((hE2.row (Nat.le_of_eq Hb.out) _).row (by have := Hb.out; omega) _)⟩
end Go.Proofs.Ytmbjebdkhcpclaa
