/-
  The program's reading of a slot.
-/
import Derived.Test.YtmbjebdkhcpclaaEB
import Derived.Test.YtmbjebdkhcpclaaECk
import Derived.RegionTactic
import Derived.ChangeAlike
set_option linter.unusedSimpArgs false
set_option linter.unusedVariables false
namespace Go.Proofs.Ytmbjebdkhcpclaa
open Go.RowKit

set_option maxHeartbeats 4000000 in
set_option maxRecDepth 100000 in
theorem Parse_calls (v : Value) (xs : List Int) (w : World) (hx : xs.length ≤ 1000000) (hr : Rd w .u8 v xs) (hxs : ∀ x ∈ xs, 0 ≤ x ∧ x < 256) :
    Calls Try.prog 14 #[v] w fun e w' => e = .returned (parsed xs) ∧ Ext w w' := by
  have Hr := Lib.hid hr
  have Hxs := Lib.hid hxs
  clear hr hxs
  go_enter Try.func14, Try.ntmps14
  go_wp2_with fail
  obtain ⟨A0, hA0⟩ : ∃ A0, w.heap.size = A0 := ⟨_, rfl⟩
  obtain ⟨wA, hwA⟩ : ∃ wA, (w.alloc (.cells #[.int .i64 0, .int .i64 0, .int .i64 0, .int .i64 0] 30)).alloc (.cells (slotCells 0 0 0 (fun _ => 0)) 24) = wA := ⟨_, rfl⟩
  have hwA0 : w.heap.size ≤ A0 := Nat.le_of_eq hA0
  have hE0 : Ext w wA := hwA ▸ ((Ext.refl w).alloc _).alloc _
  have b0 : wA.heap[A0]? = some (.cells #[.int .i64 0, .int .i64 0, .int .i64 0, .int .i64 0] 30 (0, 0)) := by
    rw [← hwA, ← hA0]; exact ((Ext.refl _).alloc _).heap (heap_alloc_new w _)
  have b1 : wA.heap[A0 + 1]? = some (.cells (slotCells 0 0 0 (fun _ => 0)) 24 (0, 0)) := by
    rw [← hwA, ← hA0]; have := heap_alloc_new (w.alloc (.cells #[.int .i64 0, .int .i64 0, .int .i64 0, .int .i64 0] 30)) (.cells (slotCells 0 0 0 (fun _ => 0)) 24); rwa [World.size_alloc] at this
  have hs : wA.heap.size = A0 + 2 := by rw [← hwA, ← hA0]; simp
  have Hr := Lib.hid (Hr.out.ext hE0)
  rw [hwA, hA0]
  refine (New_calls v xs wA hx Hr.out).mono ?_
  rintro e w1 ⟨g, rfl, hR, hg, hgl, hE1⟩
  have HR := Lib.hid (RdP.new hR Hxs.out)
  have B0 := Lib.hid b0
  have B1 := Lib.hid b1
  clear hwA hA0 b0 b1 hR hgl
  go_wp2_with fail
  refine (PInt_calls g xs 0 w1 HR.out).mono ?_
  obtain ⟨V0, hV0⟩ : ∃ V, intAt xs 0 = V := ⟨_, rfl⟩
  rw [hV0]
  have HV0 := Lib.hid hV0
  clear hV0
  rintro e w2 ⟨rfl, hR, hG⟩
  have HR2 := Lib.hid (show RdP _ w2 g xs 8 from hR)
  have hE2 := hE1.grownBy hG hg
  clear HR hR hG hE1
  go_wp2_with fail
  refine (PByte_calls g xs 8 w2 HR2.out).mono ?_
  obtain ⟨V8, hV8⟩ : ∃ V, byteAt xs 8 = V := ⟨_, rfl⟩
  rw [hV8]
  have HV8 := Lib.hid hV8
  clear hV8
  rintro e w3 ⟨rfl, hR, hG⟩
  have HR3 := Lib.hid (show RdP _ w3 g xs 9 from hR)
  have hE3 := hE2.grownBy hG hg
  clear HR2 hR hG hE2
  go_wp2_with fail
  refine (PByte_calls g xs 9 w3 HR3.out).mono ?_
  obtain ⟨V9, hV9⟩ : ∃ V, byteAt xs 9 = V := ⟨_, rfl⟩
  rw [hV9]
  have HV9 := Lib.hid hV9
  clear hV9
  rintro e w4 ⟨rfl, hR, hG⟩
  have HR4 := Lib.hid (show RdP _ w4 g xs 10 from hR)
  have hE4 := hE3.grownBy hG hg
  clear HR3 hR hG hE3
  go_wp2_with fail
  refine (PByte_calls g xs 10 w4 HR4.out).mono ?_
  obtain ⟨V10, hV10⟩ : ∃ V, byteAt xs 10 = V := ⟨_, rfl⟩
  rw [hV10]
  have HV10 := Lib.hid hV10
  clear hV10
  rintro e w5 ⟨rfl, hR, hG⟩
  have HR5 := Lib.hid (show RdP _ w5 g xs 11 from hR)
  have hE5 := hE4.grownBy hG hg
  clear HR4 hR hG hE4
  go_wp2_with fail
  obtain ⟨Bh, hBh⟩ : ∃ Bh, w5.heap.size = Bh := ⟨_, rfl⟩
  obtain ⟨w6, hw6⟩ : ∃ w6, w5.alloc (.cells #[.int .i64 V0, .int .i64 V8, .int .i64 V9, .int .i64 V10] 30) = w6 := ⟨_, rfl⟩
  have hE56 : Ext w5 w6 := hw6 ▸ (Ext.refl w5).alloc _
  have BH6 := Lib.hid (show HeadAt w6 Bh V0 V8 V9 V10 by rw [← hw6, ← hBh]; exact HeadAt.new w5 _ _ _ _)
  have HR6 := Lib.hid (HR5.out.ext hE56)
  have hE6 := hE5.trans hE56
  have hgh : Bh ≠ g := by have := HR5.out.lt; omega
  have hBhA : wA.heap.size ≤ Bh := hBh ▸ hE5.size
  rw [hw6, hBh]
  clear HR5 hE5 hE56 hw6 hBh
  go_wp2_with fail
  refine (PByte_calls g xs 11 w6 HR6.out).mono ?_
  obtain ⟨V11, hV11⟩ : ∃ V, byteAt xs 11 = V := ⟨_, rfl⟩
  rw [hV11]
  have HV11 := Lib.hid hV11
  clear hV11
  rintro e w7 ⟨rfl, hR, hG⟩
  have HR7 := Lib.hid (show RdP _ w7 g xs 12 from hR)
  have hE7 := hE6.grownBy hG hg
  have BH7 := Lib.hid (BH6.out.grown hG hgh)
  clear HR6 hR hG hE6 BH6
  go_wp2_with fail
  refine (PInt_calls g xs 12 w7 HR7.out).mono ?_
  obtain ⟨V12, hV12⟩ : ∃ V, intAt xs 12 = V := ⟨_, rfl⟩
  rw [hV12]
  have HV12 := Lib.hid hV12
  clear hV12
  rintro e w8 ⟨rfl, hR, hG⟩
  have HR8 := Lib.hid (show RdP _ w8 g xs 20 from hR)
  have hE8 := hE7.grownBy hG hg
  have BH8 := Lib.hid (BH7.out.grown hG hgh)
  clear HR7 hR hG hE7 BH7
  go_wp2_with fail
  refine (PInt_calls g xs 20 w8 HR8.out).mono ?_
  obtain ⟨V20, hV20⟩ : ∃ V, intAt xs 20 = V := ⟨_, rfl⟩
  rw [hV20]
  have HV20 := Lib.hid hV20
  clear hV20
  rintro e w9 ⟨rfl, hR, hG⟩
  have HR9 := Lib.hid (show RdP _ w9 g xs 28 from hR)
  have hE9 := hE8.grownBy hG hg
  have BH9 := Lib.hid (BH8.out.grown hG hgh)
  clear HR8 hR hG hE8 BH8
  have tok : True := trivial
  have tok2 : True := trivial
  go_wp2_with (first | (have _t := tok2; clear _t; refine wpList_built rfl 24 _ rfl (slotCells V11 V12 V20 (fun _ => 0)) (built3 V11 V12 V20) ?_; clear tok2) | (have _t := tok; clear _t; refine wpList_store_row rfl 24 _ _ rfl _ (slotCells V11 V12 V20 (fun _ => 0)) rfl rfl 24 (slotCells 0 0 0 (fun _ => 0)) (heap_alloc_new w9 _) (slot_info ..) rfl (slot_one ..) ?_; clear tok))
  obtain ⟨Bs, hBs⟩ : ∃ Bs, w9.heap.size = Bs := ⟨_, rfl⟩
  obtain ⟨w10, hw10⟩ : ∃ w10, (w9.alloc (.cells (slotCells 0 0 0 (fun _ => 0)) 24)).setRow w9.heap.size (slotCells V11 V12 V20 (fun _ => 0)) = w10 := ⟨_, rfl⟩
  have hw10' := hw10
  rw [World.setRow_alloc_new] at hw10'
  have hE910 : Ext w9 w10 := hw10' ▸ (Ext.refl w9).alloc _
  have BS10 := Lib.hid (show SlotAt w10 Bs V11 V12 V20 (fun _ => 0) by rw [← hw10', ← hBs]; exact SlotAt.new w9 _ _ _ _)
  have BH10 := Lib.hid (BH9.out.ext hE910)
  have HR10 := Lib.hid (HR9.out.ext hE910)
  have hE10 := hE9.trans hE910
  have hgs : g < Bs := hBs ▸ HR9.out.lt
  have hhs : Bh < Bs := hBs ▸ BH9.out.lt
  have hBsA : wA.heap.size ≤ Bs := hBs ▸ hE9.size
  rw [hw10, hBs]
  clear HR9 hE9 hE910 hw10 hw10' hBs BH9
  go_loopw [29] (fun jv wr => ∃ j : Nat, j ≤ 16 ∧ jv = .int .i64 j ∧ RdP (wA.heap.size ≤ ·) wr g xs (28 + j) ∧ HeadAt wr Bh V0 V8 V9 V10 ∧ SlotAt wr Bs V11 V12 V20 (frontOf (dataAt xs) j) ∧ Ext wA wr) (fun jv wr => 16 - (intOf jv).toNat)
  case atStart => exact ⟨0, Nat.zero_le _, rfl, HR10.out, BH10.out, BS10.out.congr (fun j _ => by simp [frontOf]), hE10⟩
  case round =>
    clear HR10 BH10 BS10 hE10
    obtain ⟨j, hj, rfl, hR, hH, hS, hE⟩ := hrel
    have HR := Lib.hid hR
    have HH := Lib.hid hH
    have HS := Lib.hid hS
    clear hR hH hS
    by_cases hlt : j < 16
    · go_wp2_with fail
      refine (PByte_calls g xs (28 + j) wr HR.out).mono ?_
      rintro e w11 ⟨rfl, hR, hG⟩
      have HR11 := Lib.hid (show RdP _ w11 g xs (28 + (j + 1)) from hR)
      have hE11 := hE.grownBy hG hg
      have HH11 := Lib.hid (HH.out.grown hG hgh)
      have HS11 := Lib.hid (HS.out.grown hG (Nat.ne_of_gt hgs))
      obtain ⟨q, hq⟩ : ∃ q, byteAt xs (28 + j) = q := ⟨_, rfl⟩
      have hqr := byteAt_range Hxs.out (28 + j)
      rw [hq] at hqr ⊢
      obtain ⟨hq0, hq1⟩ := hqr
      have Hq := Lib.hid (show dataAt xs j = q from hq)
      obtain ⟨hc, hf⟩ := HS11.out.byte j hlt
      clear hG HR HH HS hE hq hR
      go_wp2_with fail
      go_roundw
      case rel =>
        refine ⟨j + 1, by omega, by go_num, HR11.out.keep (setCell_grown (Ext.refl w11) _ _) hgs, HH11.out.grown (setCell_grown (Ext.refl w11) _ _) (Nat.ne_of_lt hhs), ?_, hE11.set hBsA _⟩
        refine (HS11.out.set j hlt q).congr fun i hi => ?_
        unfold frontOf
        by_cases h : i = j
        · subst h; rw [if_pos rfl, if_pos (by omega), Hq.out]
        · rw [if_neg h]
          by_cases h' : i < j
          · rw [if_pos h', if_pos (by omega)]
          · rw [if_neg h', if_neg (by omega)]
      case measure => simp [intOf]; omega
    · obtain rfl : j = 16 := by omega
      rw [show ((16 : Nat) : Int) = 16 from rfl]
      have HSD := Lib.hid (HS.out.congr (e := dataAt xs) (fun j hj => by unfold frontOf; rw [if_pos hj]))
      clear HS
      go_wp2_with fail
      go_loopw [9, 39] (fun bv jv wr => ∃ j : Nat, j ≤ 4 ∧ jv = .int .i64 j ∧ (∃ B : Int, bv = .int .i64 B ∧ 0 ≤ B ∧ B < 256 ∧ (B = 0 ↔ ∀ i, i < j → byteAt xs (44 + i) = 0)) ∧ RdP (wA.heap.size ≤ ·) wr g xs (44 + j) ∧ HeadAt wr Bh V0 V8 V9 V10 ∧ SlotAt wr Bs V11 V12 V20 (dataAt xs) ∧ Ext wA wr) (fun bv jv wr => 4 - (intOf jv).toNat)
      case atStart => exact ⟨0, Nat.zero_le _, rfl, ⟨0, rfl, by decide, by decide, by simp⟩, HR.out, HH.out, HSD.out, hE⟩
      case round =>
        clear HR HH HSD hE
        obtain ⟨j, hj, rfl, ⟨B, rfl, hB0, hB1, hB⟩, hR, hH, hS, hE⟩ := hrel
        have HR := Lib.hid hR
        have HH := Lib.hid hH
        have HS := Lib.hid hS
        have HB := Lib.hid hB
        clear hR hH hS hB
        by_cases hlt : j < 4
        · go_wp2_with fail
          refine (PByte_calls g xs (44 + j) wr HR.out).mono ?_
          rintro e w11 ⟨rfl, hR, hG⟩
          have HR11 := Lib.hid (show RdP _ w11 g xs (44 + (j + 1)) from hR)
          have hE11 := hE.grownBy hG hg
          have HH11 := Lib.hid (HH.out.grown hG hgh)
          have HS11 := Lib.hid (HS.out.grown hG (Nat.ne_of_gt hgs))
          obtain ⟨q, hq⟩ : ∃ q, byteAt xs (44 + j) = q := ⟨_, rfl⟩
          have hqr := byteAt_range Hxs.out (44 + j)
          rw [hq] at hqr ⊢
          obtain ⟨hq0, hq1⟩ := hqr
          have Hq := Lib.hid hq
          obtain ⟨c, hor, hc0, hc1, hcz⟩ := i64_or_small B q hB0 hB1 hq0 hq1
          have Hor := Lib.hid hor
          have Hcz := Lib.hid hcz
          clear hG HR HH HS hE hq hR hor hcz
          go_wp2_with fail
          go_roundw
          case rel =>
            refine ⟨j + 1, by omega, by go_num, ⟨c, by rw [Hor.out], hc0, hc1, ?_⟩, HR11.out, HH11.out, HS11.out, hE11⟩
            rw [Hcz.out, HB.out]
            refine ⟨fun ⟨h1, h2⟩ i hi => ?_, fun h => ⟨fun i hi => h i (by omega), by rw [← Hq.out]; exact h j (by omega)⟩⟩
            rcases Nat.lt_or_ge i j with h' | h'
            · exact h1 i h'
            · rw [show i = j by omega, Hq.out]; exact h2
          case measure => simp [intOf]; omega
        · obtain rfl : j = 4 := by omega
          rw [show ((4 : Nat) : Int) = 4 from rfl]
          go_wp2_with fail
          refine (PEnd_calls g xs 48 wr HR.out).mono ?_
          rintro e w' ⟨rfl, rfl⟩
          have S1 := Lib.hid (show SlotAt wr (A0 + 1) 0 0 0 (fun _ => 0) from hE.heap B1.out)
          have S0 := Lib.hid (show HeadAt wr A0 0 0 0 0 from hE.heap B0.out)
          by_cases hend : endAt xs 48 = 0
          · have hbad : slotBad xs = true → parsed xs = .tuple #[headVal 0 0 0 0, slotVal 0 0 0 (fun _ => 0), .int .i64 5] := by
              intro hb
              have : parseF xs = 5 := by rw [parseF, if_neg (fun h => h hend), if_pos hb]
              rw [parsed, this]; rfl
            have hn4 : noughtsAt xs = (B == 0) := by
              have hB := HB.out
              unfold noughtsAt
              by_cases h : B = 0
              · have := hB.1 h
                rw [this 0 (by decide), this 1 (by decide), this 2 (by decide), this 3 (by decide), h]; rfl
              · rw [beq_eq_false_iff_ne.2 h]
                by_cases h0 : byteAt xs 44 = 0
                · by_cases h1 : byteAt xs 45 = 0
                  · by_cases h2 : byteAt xs 46 = 0
                    · by_cases h3 : byteAt xs 47 = 0
                      · exact absurd (hB.2 fun i hi => by
                          rcases (show i = 0 ∨ i = 1 ∨ i = 2 ∨ i = 3 by omega) with rfl | rfl | rfl | rfl <;> assumption) h
                      · rw [beq_eq_false_iff_ne.2 h3]; simp
                    · rw [beq_eq_false_iff_ne.2 h2]; simp
                  · rw [beq_eq_false_iff_ne.2 h1]; simp
                · rw [beq_eq_false_iff_ne.2 h0]; simp
            have Hbad := Lib.hid hbad
            have Hn4 := Lib.hid hn4
            have Hend := Lib.hid hend
            rw [hend]
            clear hbad hn4 hend
            by_cases hBz : B = 0
            · subst hBz
              rw [show ((0 : Int) == 0) = true from rfl] at Hn4
              have tokl : True := trivial
              have hc0 : wr.cell? ⟨Bh, 0, none⟩ = some (.int .i64 V0) := cell_of_block HH.out 0
              go_wp2_with fail
              clear hc0
              by_cases hser : 1 ≤ V0 ∧ V0 ≤ 1099511627776
              · refine (has_yes _ _ _ _ hser.1 hser.2).mono ?_
                rintro e w12 ⟨rfl, hw12⟩
                have hE := hw12 ▸ hE.alloc _
                have HS := Lib.hid (hw12 ▸ HS.out.ext ((Ext.refl wr).alloc _))
                have HH := Lib.hid (hw12 ▸ HH.out.ext ((Ext.refl wr).alloc _))
                have S1 := Lib.hid (hw12 ▸ S1.out.ext ((Ext.refl wr).alloc _))
                have S0 := Lib.hid (hw12 ▸ S0.out.ext ((Ext.refl wr).alloc _))
                clear hw12
                go_wp2_with (have _t := tokl; clear _t; refine wpList_load_rowg (by rfl) 24 _ rfl _ rfl 24 (slotCells V11 V12 V20 (dataAt xs)) (0, 0) _ HS.out Try.underlying24 rfl (slot_info ..) ?_; clear tokl)
                refine (Check_calls V11 V12 V20 (dataAt xs) w12).mono ?_
                rintro e w13 ⟨rfl, hE13⟩
                have hE := hE.trans hE13
                have HS := Lib.hid (HS.out.ext hE13)
                have HH := Lib.hid (HH.out.ext hE13)
                have S1 := Lib.hid (S1.out.ext hE13)
                have S0 := Lib.hid (S0.out.ext hE13)
                clear hE13
                by_cases hck : checkF V11 V12 V20 (dataAt xs) = 0
                · have Hp := Lib.hid (show parsed xs = .tuple #[headVal V0 V8 V9 V10, slotVal V11 V12 V20 (dataAt xs), .int .i64 0] by
                    have hb : slotBad xs = false := by unfold slotBad; rw [Hn4.out, HV0.out, HV11.out, HV12.out, HV20.out, hck, decide_eq_true hser]; rfl
                    have : parseF xs = 0 := by rw [parseF, if_neg (fun h => h Hend.out), if_neg (by rw [hb]; decide)]
                    rw [parsed, if_pos this, HV0.out, HV8.out, HV9.out, HV10.out, HV11.out, HV12.out, HV20.out])
                  rw [hck]
                  clear hck
                  go_wp2_with fail
                  refine wp_region_any mixed ?_
                  refine wpAny_ready (rs := [0, 1]) (by kernel_rfl) (by simp) ?_
                  refine AllReady.cons rfl (fun K hK => ?_) (AllReady.cons rfl (fun K hK => ?_) (AllReady.nil))
                  · refine step_load_row rfl 30 _ rfl Bh rfl 30 (headCells V0 V8 V9 V10) (0, 0) _ HH.out Try.underlying30 rfl (head_info ..) (hK _ _ ?_)
                    clear hK K
                    refine wpAny_ready (rs := [1, 2]) (by kernel_rfl) (by simp) ?_
                    refine AllReady.cons rfl (fun K hK => ?_) (AllReady.cons rfl (fun K hK => ?_) (AllReady.nil))
                    · refine step_load_row rfl 24 _ rfl Bs rfl 24 (slotCells V11 V12 V20 (dataAt xs)) (0, 0) _ HS.out Try.underlying24 rfl (slot_info ..) (hK _ _ ?_)
                      clear hK K
                      refine wpAny_ready (rs := [2]) (by kernel_rfl) (by simp) ?_
                      refine AllReady.cons rfl (fun K hK => ?_) (AllReady.nil)
                      · refine step_store_row rfl 30 _ _ rfl A0 (headCells V0 V8 V9 V10) rfl rfl 30 (headCells 0 0 0 0) S0.out (head_info ..) rfl (head_one ..) (hK _ _ ?_)
                        clear hK K
                        refine wpAny_ready (rs := [3]) (by kernel_rfl) (by simp) ?_
                        refine AllReady.cons rfl (fun K hK => ?_) (AllReady.nil)
                        · refine step_store_row rfl 24 _ _ rfl (A0 + 1) (slotCells V11 V12 V20 (dataAt xs)) rfl rfl 24 (slotCells 0 0 0 (fun _ => 0)) (row_keep S1.out (by omega)) (slot_info ..) rfl (slot_one ..) (hK _ _ ?_)
                          clear hK K
                          refine wpAny_ready (rs := [4]) (by kernel_rfl) (by simp) ?_
                          refine AllReady.cons rfl (fun K hK => ?_) (AllReady.nil)
                          · refine step_assign rfl _ rfl (hK _ _ ?_)
                            clear hK K
                            refine wpAny_done (by kernel_rfl) ?_ _
                            go_wp2_with fail
                            refine bodyPost_ret (results_parse rfl _ _ A0 (A0 + 1) V0 V8 V9 V10 V11 V12 V20 0 (dataAt xs) (row_keep (row_at S0.out) (by omega)) (row_at (row_keep S1.out (by omega))) rfl rfl rfl) rfl ?_
                            exact ⟨by rw [Hp.out], (((hE0.trans hE).drew).row hwA0 _).row (by omega) _⟩
                    · refine step_store_row rfl 30 _ _ rfl A0 (headCells V0 V8 V9 V10) rfl rfl 30 (headCells 0 0 0 0) S0.out (head_info ..) rfl (head_one ..) (hK _ _ ?_)
                      clear hK K
                      refine wpAny_ready (rs := [1]) (by kernel_rfl) (by simp) ?_
                      refine AllReady.cons rfl (fun K hK => ?_) (AllReady.nil)
                      · refine step_load_row rfl 24 _ rfl Bs rfl 24 (slotCells V11 V12 V20 (dataAt xs)) (0, 0) _ (row_keep HS.out (by omega)) Try.underlying24 rfl (slot_info ..) (hK _ _ ?_)
                        clear hK K
                        refine wpAny_ready (rs := [3]) (by kernel_rfl) (by simp) ?_
                        refine AllReady.cons rfl (fun K hK => ?_) (AllReady.nil)
                        · refine step_store_row rfl 24 _ _ rfl (A0 + 1) (slotCells V11 V12 V20 (dataAt xs)) rfl rfl 24 (slotCells 0 0 0 (fun _ => 0)) (row_keep S1.out (by omega)) (slot_info ..) rfl (slot_one ..) (hK _ _ ?_)
                          clear hK K
                          refine wpAny_ready (rs := [4]) (by kernel_rfl) (by simp) ?_
                          refine AllReady.cons rfl (fun K hK => ?_) (AllReady.nil)
                          · refine step_assign rfl _ rfl (hK _ _ ?_)
                            clear hK K
                            refine wpAny_done (by kernel_rfl) ?_ _
                            go_wp2_with fail
                            refine bodyPost_ret (results_parse rfl _ _ A0 (A0 + 1) V0 V8 V9 V10 V11 V12 V20 0 (dataAt xs) (row_keep (row_at S0.out) (by omega)) (row_at (row_keep S1.out (by omega))) rfl rfl rfl) rfl ?_
                            exact ⟨by rw [Hp.out], (((hE0.trans hE).drew).row hwA0 _).row (by omega) _⟩
                  · refine step_load_row rfl 24 _ rfl Bs rfl 24 (slotCells V11 V12 V20 (dataAt xs)) (0, 0) _ HS.out Try.underlying24 rfl (slot_info ..) (hK _ _ ?_)
                    clear hK K
                    refine wpAny_ready (rs := [0]) (by kernel_rfl) (by simp) ?_
                    refine AllReady.cons rfl (fun K hK => ?_) (AllReady.nil)
                    · refine step_load_row rfl 30 _ rfl Bh rfl 30 (headCells V0 V8 V9 V10) (0, 0) _ HH.out Try.underlying30 rfl (head_info ..) (hK _ _ ?_)
                      clear hK K
                      refine wpAny_ready (rs := [2]) (by kernel_rfl) (by simp) ?_
                      refine AllReady.cons rfl (fun K hK => ?_) (AllReady.nil)
                      · refine step_store_row rfl 30 _ _ rfl A0 (headCells V0 V8 V9 V10) rfl rfl 30 (headCells 0 0 0 0) S0.out (head_info ..) rfl (head_one ..) (hK _ _ ?_)
                        clear hK K
                        refine wpAny_ready (rs := [3]) (by kernel_rfl) (by simp) ?_
                        refine AllReady.cons rfl (fun K hK => ?_) (AllReady.nil)
                        · refine step_store_row rfl 24 _ _ rfl (A0 + 1) (slotCells V11 V12 V20 (dataAt xs)) rfl rfl 24 (slotCells 0 0 0 (fun _ => 0)) (row_keep S1.out (by omega)) (slot_info ..) rfl (slot_one ..) (hK _ _ ?_)
                          clear hK K
                          refine wpAny_ready (rs := [4]) (by kernel_rfl) (by simp) ?_
                          refine AllReady.cons rfl (fun K hK => ?_) (AllReady.nil)
                          · refine step_assign rfl _ rfl (hK _ _ ?_)
                            clear hK K
                            refine wpAny_done (by kernel_rfl) ?_ _
                            go_wp2_with fail
                            refine bodyPost_ret (results_parse rfl _ _ A0 (A0 + 1) V0 V8 V9 V10 V11 V12 V20 0 (dataAt xs) (row_keep (row_at S0.out) (by omega)) (row_at (row_keep S1.out (by omega))) rfl rfl rfl) rfl ?_
                            exact ⟨by rw [Hp.out], (((hE0.trans hE).drew).row hwA0 _).row (by omega) _⟩
                · obtain ⟨C, hC⟩ : ∃ C, checkF V11 V12 V20 (dataAt xs) = C := ⟨_, rfl⟩
                  have Hp := Lib.hid (Hbad.out (by unfold slotBad; rw [HV11.out, HV12.out, HV20.out, beq_eq_false_iff_ne.2 hck]; simp))
                  rw [hC] at hck ⊢
                  have nC : (C != 0) = true := bne_iff_ne.2 hck
                  clear hC HR HH HS
                  have tok3 : True := trivial
                  have tok4 : True := trivial
                  go_wp2_with (first | (have _t := tok3; clear _t; refine wpList_store_row rfl 24 _ _ rfl _ (slotCells 0 0 0 (fun _ => 0)) rfl rfl 24 (slotCells 0 0 0 (fun _ => 0)) (row_keep S1.out (by omega)) (slot_info ..) rfl (slot_one ..) ?_; clear tok3) | (have _t := tok4; clear _t; refine wpList_store_row rfl 30 _ _ rfl _ (headCells 0 0 0 0) rfl rfl 30 (headCells 0 0 0 0) S0.out (head_info ..) rfl (head_one ..) ?_; clear tok4))
                  refine bodyPost_ret (results_parse rfl _ _ A0 (A0 + 1) 0 0 0 0 0 0 0 5 (fun _ => 0) (row_keep (row_at S0.out) (by omega)) (row_at (row_keep S1.out (by omega))) rfl rfl rfl) rfl ?_
                  exact ⟨by rw [Hp.out], ((hE0.trans hE).row hwA0 _).row (by omega) _⟩
              · refine (has_no _ _ _ _ hser).mono ?_
                rintro e w12 ⟨rfl, hw12⟩
                have hE := hw12 ▸ hE.alloc _
                have S1 := Lib.hid (hw12 ▸ S1.out.ext ((Ext.refl wr).alloc _))
                have S0 := Lib.hid (hw12 ▸ S0.out.ext ((Ext.refl wr).alloc _))
                have Hp := Lib.hid (Hbad.out (by unfold slotBad; rw [HV0.out, decide_eq_false hser]; simp))
                clear hw12 HR HH HS
                have tok3 : True := trivial
                have tok4 : True := trivial
                go_wp2_with (first | (have _t := tok3; clear _t; refine wpList_store_row rfl 24 _ _ rfl _ (slotCells 0 0 0 (fun _ => 0)) rfl rfl 24 (slotCells 0 0 0 (fun _ => 0)) (row_keep S1.out (by omega)) (slot_info ..) rfl (slot_one ..) ?_; clear tok3) | (have _t := tok4; clear _t; refine wpList_store_row rfl 30 _ _ rfl _ (headCells 0 0 0 0) rfl rfl 30 (headCells 0 0 0 0) S0.out (head_info ..) rfl (head_one ..) ?_; clear tok4))
                refine bodyPost_ret (results_parse rfl _ _ A0 (A0 + 1) 0 0 0 0 0 0 0 5 (fun _ => 0) (row_keep (row_at S0.out) (by omega)) (row_at (row_keep S1.out (by omega))) rfl rfl rfl) rfl ?_
                exact ⟨by rw [Hp.out], ((hE0.trans hE).row hwA0 _).row (by omega) _⟩
            · have nB : (B != 0) = true := bne_iff_ne.2 hBz
              have Hp := Lib.hid (Hbad.out (by unfold slotBad; rw [Hn4.out, beq_eq_false_iff_ne.2 hBz]; rfl))
              have tok3 : True := trivial
              have tok4 : True := trivial
              go_wp2_with (first | (have _t := tok3; clear _t; refine wpList_store_row rfl 24 _ _ rfl _ (slotCells 0 0 0 (fun _ => 0)) rfl rfl 24 (slotCells 0 0 0 (fun _ => 0)) (row_keep S1.out (by omega)) (slot_info ..) rfl (slot_one ..) ?_; clear tok3) | (have _t := tok4; clear _t; refine wpList_store_row rfl 30 _ _ rfl _ (headCells 0 0 0 0) rfl rfl 30 (headCells 0 0 0 0) S0.out (head_info ..) rfl (head_one ..) ?_; clear tok4))
              refine bodyPost_ret (results_parse rfl _ _ A0 (A0 + 1) 0 0 0 0 0 0 0 5 (fun _ => 0) (row_keep (row_at S0.out) (by omega)) (row_at (row_keep S1.out (by omega))) rfl rfl rfl) rfl ?_
              exact ⟨by rw [Hp.out], ((hE0.trans hE).row hwA0 _).row (by omega) _⟩
          · have hp : parsed xs = .tuple #[headVal 0 0 0 0, slotVal 0 0 0 (fun _ => 0), .int .i64 (endAt xs 48)] := by
              have : parseF xs = endAt xs 48 := by rw [parseF, if_pos hend]
              rw [parsed, this, if_neg hend]
            obtain ⟨E, hE'⟩ : ∃ E, endAt xs 48 = E := ⟨_, rfl⟩
            rw [hE'] at hend hp ⊢
            have n1 : (E == 0) = false := beq_eq_false_iff_ne.2 hend
            have n2 : (E != 0) = true := bne_iff_ne.2 hend
            have Hp := Lib.hid hp
            clear hp hE'
            have tok3 : True := trivial
            have tok4 : True := trivial
            go_wp2_with (first | (have _t := tok3; clear _t; refine wpList_store_row rfl 24 _ _ rfl _ (slotCells 0 0 0 (fun _ => 0)) rfl rfl 24 (slotCells 0 0 0 (fun _ => 0)) (row_keep S1.out (by omega)) (slot_info ..) rfl (slot_one ..) ?_; clear tok3) | (have _t := tok4; clear _t; refine wpList_store_row rfl 30 _ _ rfl _ (headCells 0 0 0 0) rfl rfl 30 (headCells 0 0 0 0) S0.out (head_info ..) rfl (head_one ..) ?_; clear tok4))
            refine bodyPost_ret (results_parse rfl _ _ A0 (A0 + 1) 0 0 0 0 0 0 0 E (fun _ => 0) (row_keep (row_at S0.out) (by omega)) (row_at (row_keep S1.out (by omega))) rfl rfl rfl) rfl ?_
            exact ⟨by rw [Hp.out], ((hE0.trans hE).row hwA0 _).row (by omega) _⟩
end Go.Proofs.Ytmbjebdkhcpclaa
