/-
  The document's reading of a slot. Printed by mk_EPd.py.
-/
import Derived.Test.YtmbjebdkhcpclaaEB
import Derived.Test.YtmbjebdkhcpclaaEDk
import Derived.RegionTactic
import Derived.ChangeAlike
set_option linter.unusedSimpArgs false
set_option linter.unusedVariables false
namespace Go.Proofs.Ytmbjebdkhcpclaa
open Go.RowKit

set_option maxHeartbeats 4000000 in
set_option maxRecDepth 100000 in
theorem DParse_calls (v : Value) (xs : List Int) (w : World) (hx : xs.length ≤ 1000000) (hr : Rd w .u8 v xs) (hxs : ∀ x ∈ xs, 0 ≤ x ∧ x < 256) :
    Calls Try.prog 15 #[v] w fun e w' => e = .returned (parsed xs) ∧ Ext w w' := by
  obtain ⟨Ab, cb, rfl⟩ := hr.shape
  have hAb : ∀ ad, Ab = some ad → xs ≠ [] → ad.block < w.heap.size := by
    intro ad he hne
    obtain ⟨b, off, c, he', h1, h2, h3⟩ := Rd.pos hr (List.length_pos_iff.2 hne)
    injection he' with e1 e2 e3
    rw [e1] at he
    cases he
    exact World.block_lt_of_cell? w _ (h3 0 (List.length_pos_iff.2 hne))
  have Hr := Lib.hid hr
  have Hxs := Lib.hid hxs
  have HAb := Lib.hid hAb
  clear hr hxs hAb
  go_enter Try.func15, Try.ntmps15
  go_wp2_with fail
  obtain ⟨A0, hA0⟩ : ∃ A0, w.heap.size = A0 := ⟨_, rfl⟩
  obtain ⟨wA, hwA⟩ : ∃ wA, (w.alloc (.cells #[.int .i64 0, .int .i64 0, .int .i64 0, .int .i64 0] 30)).alloc (.cells (slotCells 0 0 0 (fun _ => 0)) 24) = wA := ⟨_, rfl⟩
  have hwA0 : w.heap.size ≤ A0 := Nat.le_of_eq hA0
  have hE0 : Ext w wA := hwA ▸ ((Ext.refl w).alloc _).alloc _
  have b0 : HeadAt wA A0 0 0 0 0 := by
    rw [← hwA, ← hA0]; exact (HeadAt.new w 0 0 0 0).ext ((Ext.refl _).alloc _)
  have b1 : SlotAt wA (A0 + 1) 0 0 0 (fun _ => 0) := by
    rw [← hwA, ← hA0]; have := SlotAt.new (w.alloc (.cells #[.int .i64 0, .int .i64 0, .int .i64 0, .int .i64 0] 30)) 0 0 0 (fun _ => 0); rwa [World.size_alloc] at this
  have hs : wA.heap.size = A0 + 2 := by rw [← hwA, ← hA0]; simp
  have Hr := Lib.hid (Hr.out.ext hE0)
  rw [hwA, hA0]
  refine (QNew_calls (p := (· < wA.heap.size)) Ab xs.length cb xs wA hx Hr.out rfl (fun ad e hne => ⟨Nat.lt_of_lt_of_le (HAb.out ad e hne) hE0.size, Nat.lt_of_lt_of_le (HAb.out ad e hne) hE0.size⟩)).mono ?_
  rintro e w1 ⟨rfl, hR, hgl, hE1⟩
  obtain ⟨x, hxx⟩ : ∃ x, wA.heap.size = x := ⟨_, rfl⟩
  rw [hxx] at hR hgl ⊢
  have HR := Lib.hid (RfP.new hR Hxs.out)
  have hxA : wA.heap.size ≤ x := Nat.le_of_eq hxx
  have B0 := Lib.hid b0
  have B1 := Lib.hid b1
  clear hwA hA0 b0 b1 hR hxx
  obtain ⟨Bh, hBh⟩ : ∃ Bh, w1.heap.size = Bh := ⟨_, rfl⟩
  have z0 : HeadAt ((w1.alloc (.cells (headCells 0 0 0 0) 30)).alloc (.cells (slotCells 0 0 0 (fun _ => 0)) 24)) Bh 0 0 0 0 := by
    rw [← hBh]; exact (HeadAt.new w1 0 0 0 0).ext ((Ext.refl _).alloc _)
  have z1 : SlotAt ((w1.alloc (.cells (headCells 0 0 0 0) 30)).alloc (.cells (slotCells 0 0 0 (fun _ => 0)) 24)) (Bh + 1) 0 0 0 (fun _ => 0) := by
    rw [← hBh]; have := SlotAt.new (w1.alloc (.cells (headCells 0 0 0 0) 30)) 0 0 0 (fun _ => 0); rwa [World.size_alloc] at this
  have hE2 : Ext w1 ((w1.alloc (.cells (headCells 0 0 0 0) 30)).alloc (.cells (slotCells 0 0 0 (fun _ => 0)) 24)) := ((Ext.refl w1).alloc _).alloc _
  have Z0 := Lib.hid z0
  have Z1 := Lib.hid z1
  have Hb := Lib.hid hBh
  clear z0 z1 hBh
  have tok : True := trivial
  have tok2 : True := trivial
  go_wp2_with (first | (have _t := tok; clear _t; rw [Hb.out]; refine wpList_store_row rfl 30 _ _ rfl Bh (headCells 0 0 0 0) rfl rfl 30 (headCells 0 0 0 0) Z0.out (head_info ..) rfl (head_one ..) ?_; clear tok) | (have _t := tok2; clear _t; refine wpList_store_row rfl 24 _ _ rfl (Bh + 1) (slotCells 0 0 0 (fun _ => 0)) rfl rfl 24 (slotCells 0 0 0 (fun _ => 0)) (row_keep Z1.out (by omega)) (slot_info ..) rfl (slot_one ..) ?_; clear tok2))
  have hBhA : wA.heap.size ≤ Bh := Hb.out ▸ hE1.size
  have hhx : Bh ≠ x := by have := Hb.out; omega
  obtain ⟨wr, hwr⟩ : ∃ wr, (((w1.alloc (.cells (headCells 0 0 0 0) 30)).alloc (.cells (slotCells 0 0 0 (fun _ => 0)) 24)).setRow Bh (headCells 0 0 0 0)).setRow (Bh + 1) (slotCells 0 0 0 (fun _ => 0)) = wr := ⟨_, rfl⟩
  rw [hwr]
  obtain ⟨Bs, hBs⟩ : ∃ Bs, Bh + 1 = Bs := ⟨_, rfl⟩
  rw [hBs] at hwr ⊢
  have HH := Lib.hid (show HeadAt wr Bh 0 0 0 0 by rw [← hwr]; exact row_keep (row_at Z0.out) (by omega))
  have HS := Lib.hid (show SlotAt wr Bs 0 0 0 (fun _ => 0) by rw [← hwr, ← hBs]; exact row_at (row_keep Z1.out (by omega)))
  have hE3 : Ext w1 wr := by rw [← hwr]; exact (hE2.row (Nat.le_of_eq Hb.out) _).row (by have := Hb.out; omega) _
  have HR := Lib.hid (HR.out.ext hE3)
  have hE := hE1.trans hE3
  have hBsA : wA.heap.size ≤ Bs := by omega
  have hsx : Bs ≠ x := by have := Hb.out; omega
  have hhs : Bh ≠ Bs := by omega
  have hxBh : x ≤ Bh := by have := Hb.out; omega
  have hxBs : x ≤ Bs := by omega
  clear hwr hE1 hE2 hE3 Z0 Z1 Hb hBs
  refine (DInt_calls x xs 0 wr HR.out).mono ?_
  obtain ⟨V0, hV0⟩ : ∃ V, intAt xs 0 = V := ⟨_, rfl⟩
  rw [hV0]
  have HV0 := Lib.hid hV0
  clear hV0
  rintro e w0 ⟨rfl, hR, hG⟩
  have hE := hE.grownBy hG hxA
  have HH := Lib.hid (HH.out.grown hG hhx)
  have HS := Lib.hid (HS.out.grown hG hsx)
  have HR1 := Lib.hid (show RfP _ w0 x xs 8 from hR)
  obtain ⟨⟨c0, c1, c2, c3⟩, hf⟩ := HH.out.cells
  have f0 := hf 0
  clear hf hR hG HR
  go_wp2_with fail
  obtain ⟨wr, hwr⟩ : ∃ wr, w0.setCell ⟨Bh, 0, none⟩ (.int .i64 V0) = wr := ⟨_, rfl⟩
  have hgr := setCell_grown (Ext.refl w0) ⟨Bh, 0, none⟩ (.int .i64 V0)
  have HH := Lib.hid (hwr ▸ HH.out.set0 V0)
  have HS := Lib.hid (hwr ▸ HS.out.grown hgr (Ne.symm hhs))
  have HR := Lib.hid (hwr ▸ HR1.out.apart hgr hhx.symm (fun b hb => Nat.ne_of_lt (Nat.lt_of_lt_of_le hb hxBh)))
  have hE := hwr ▸ hE.set (a := ⟨Bh, 0, none⟩) hBhA (.int .i64 V0)
  rw [hwr]
  clear hwr hgr HR1 f0 c0 c1 c2 c3
  refine (DByte_calls x xs 8 wr HR.out).mono ?_
  obtain ⟨V8, hV8⟩ : ∃ V, byteAt xs 8 = V := ⟨_, rfl⟩
  rw [hV8]
  have HV8 := Lib.hid hV8
  clear hV8
  rintro e w1 ⟨rfl, hR, hG⟩
  have hE := hE.grownBy hG hxA
  have HH := Lib.hid (HH.out.grown hG hhx)
  have HS := Lib.hid (HS.out.grown hG hsx)
  have HR1 := Lib.hid (show RfP _ w1 x xs 9 from hR)
  obtain ⟨⟨c0, c1, c2, c3⟩, hf⟩ := HH.out.cells
  have f0 := hf 1
  clear hf hR hG HR
  go_wp2_with fail
  obtain ⟨wr, hwr⟩ : ∃ wr, w1.setCell ⟨Bh, 1, none⟩ (.int .i64 V8) = wr := ⟨_, rfl⟩
  have hgr := setCell_grown (Ext.refl w1) ⟨Bh, 1, none⟩ (.int .i64 V8)
  have HH := Lib.hid (hwr ▸ HH.out.set1 V8)
  have HS := Lib.hid (hwr ▸ HS.out.grown hgr (Ne.symm hhs))
  have HR := Lib.hid (hwr ▸ HR1.out.apart hgr hhx.symm (fun b hb => Nat.ne_of_lt (Nat.lt_of_lt_of_le hb hxBh)))
  have hE := hwr ▸ hE.set (a := ⟨Bh, 1, none⟩) hBhA (.int .i64 V8)
  rw [hwr]
  clear hwr hgr HR1 f0 c0 c1 c2 c3
  refine (DByte_calls x xs 9 wr HR.out).mono ?_
  obtain ⟨V9, hV9⟩ : ∃ V, byteAt xs 9 = V := ⟨_, rfl⟩
  rw [hV9]
  have HV9 := Lib.hid hV9
  clear hV9
  rintro e w2 ⟨rfl, hR, hG⟩
  have hE := hE.grownBy hG hxA
  have HH := Lib.hid (HH.out.grown hG hhx)
  have HS := Lib.hid (HS.out.grown hG hsx)
  have HR1 := Lib.hid (show RfP _ w2 x xs 10 from hR)
  obtain ⟨⟨c0, c1, c2, c3⟩, hf⟩ := HH.out.cells
  have f0 := hf 2
  clear hf hR hG HR
  go_wp2_with fail
  obtain ⟨wr, hwr⟩ : ∃ wr, w2.setCell ⟨Bh, 2, none⟩ (.int .i64 V9) = wr := ⟨_, rfl⟩
  have hgr := setCell_grown (Ext.refl w2) ⟨Bh, 2, none⟩ (.int .i64 V9)
  have HH := Lib.hid (hwr ▸ HH.out.set2 V9)
  have HS := Lib.hid (hwr ▸ HS.out.grown hgr (Ne.symm hhs))
  have HR := Lib.hid (hwr ▸ HR1.out.apart hgr hhx.symm (fun b hb => Nat.ne_of_lt (Nat.lt_of_lt_of_le hb hxBh)))
  have hE := hwr ▸ hE.set (a := ⟨Bh, 2, none⟩) hBhA (.int .i64 V9)
  rw [hwr]
  clear hwr hgr HR1 f0 c0 c1 c2 c3
  refine (DByte_calls x xs 10 wr HR.out).mono ?_
  obtain ⟨V10, hV10⟩ : ∃ V, byteAt xs 10 = V := ⟨_, rfl⟩
  rw [hV10]
  have HV10 := Lib.hid hV10
  clear hV10
  rintro e w3 ⟨rfl, hR, hG⟩
  have hE := hE.grownBy hG hxA
  have HH := Lib.hid (HH.out.grown hG hhx)
  have HS := Lib.hid (HS.out.grown hG hsx)
  have HR1 := Lib.hid (show RfP _ w3 x xs 11 from hR)
  obtain ⟨⟨c0, c1, c2, c3⟩, hf⟩ := HH.out.cells
  have f0 := hf 3
  clear hf hR hG HR
  go_wp2_with fail
  obtain ⟨wr, hwr⟩ : ∃ wr, w3.setCell ⟨Bh, 3, none⟩ (.int .i64 V10) = wr := ⟨_, rfl⟩
  have hgr := setCell_grown (Ext.refl w3) ⟨Bh, 3, none⟩ (.int .i64 V10)
  have HH := Lib.hid (hwr ▸ HH.out.set3 V10)
  have HS := Lib.hid (hwr ▸ HS.out.grown hgr (Ne.symm hhs))
  have HR := Lib.hid (hwr ▸ HR1.out.apart hgr hhx.symm (fun b hb => Nat.ne_of_lt (Nat.lt_of_lt_of_le hb hxBh)))
  have hE := hwr ▸ hE.set (a := ⟨Bh, 3, none⟩) hBhA (.int .i64 V10)
  rw [hwr]
  clear hwr hgr HR1 f0 c0 c1 c2 c3
  refine (DByte_calls x xs 11 wr HR.out).mono ?_
  obtain ⟨V11, hV11⟩ : ∃ V, byteAt xs 11 = V := ⟨_, rfl⟩
  rw [hV11]
  have HV11 := Lib.hid hV11
  clear hV11
  rintro e w4 ⟨rfl, hR, hG⟩
  have hE := hE.grownBy hG hxA
  have HH := Lib.hid (HH.out.grown hG hhx)
  have HS := Lib.hid (HS.out.grown hG hsx)
  have HR1 := Lib.hid (show RfP _ w4 x xs 12 from hR)
  obtain ⟨⟨c0, c1, c2⟩, hf⟩ := HS.out.heads
  have f0 := hf 0
  clear hf hR hG HR
  go_wp2_with fail
  obtain ⟨wr, hwr⟩ : ∃ wr, w4.setCell ⟨Bs, 0, none⟩ (.int .i64 V11) = wr := ⟨_, rfl⟩
  have hgr := setCell_grown (Ext.refl w4) ⟨Bs, 0, none⟩ (.int .i64 V11)
  have HS := Lib.hid (hwr ▸ HS.out.setK V11)
  have HH := Lib.hid (hwr ▸ HH.out.grown hgr hhs)
  have HR := Lib.hid (hwr ▸ HR1.out.apart hgr hsx.symm (fun b hb => Nat.ne_of_lt (Nat.lt_of_lt_of_le hb hxBs)))
  have hE := hwr ▸ hE.set (a := ⟨Bs, 0, none⟩) hBsA (.int .i64 V11)
  rw [hwr]
  clear hwr hgr HR1 f0 c0 c1 c2
  refine (DInt_calls x xs 12 wr HR.out).mono ?_
  obtain ⟨V12, hV12⟩ : ∃ V, intAt xs 12 = V := ⟨_, rfl⟩
  rw [hV12]
  have HV12 := Lib.hid hV12
  clear hV12
  rintro e w5 ⟨rfl, hR, hG⟩
  have hE := hE.grownBy hG hxA
  have HH := Lib.hid (HH.out.grown hG hhx)
  have HS := Lib.hid (HS.out.grown hG hsx)
  have HR1 := Lib.hid (show RfP _ w5 x xs 20 from hR)
  obtain ⟨⟨c0, c1, c2⟩, hf⟩ := HS.out.heads
  have f0 := hf 1
  clear hf hR hG HR
  go_wp2_with fail
  obtain ⟨wr, hwr⟩ : ∃ wr, w5.setCell ⟨Bs, 1, none⟩ (.int .i64 V12) = wr := ⟨_, rfl⟩
  have hgr := setCell_grown (Ext.refl w5) ⟨Bs, 1, none⟩ (.int .i64 V12)
  have HS := Lib.hid (hwr ▸ HS.out.setL V12)
  have HH := Lib.hid (hwr ▸ HH.out.grown hgr hhs)
  have HR := Lib.hid (hwr ▸ HR1.out.apart hgr hsx.symm (fun b hb => Nat.ne_of_lt (Nat.lt_of_lt_of_le hb hxBs)))
  have hE := hwr ▸ hE.set (a := ⟨Bs, 1, none⟩) hBsA (.int .i64 V12)
  rw [hwr]
  clear hwr hgr HR1 f0 c0 c1 c2
  refine (DInt_calls x xs 20 wr HR.out).mono ?_
  obtain ⟨V20, hV20⟩ : ∃ V, intAt xs 20 = V := ⟨_, rfl⟩
  rw [hV20]
  have HV20 := Lib.hid hV20
  clear hV20
  rintro e w6 ⟨rfl, hR, hG⟩
  have hE := hE.grownBy hG hxA
  have HH := Lib.hid (HH.out.grown hG hhx)
  have HS := Lib.hid (HS.out.grown hG hsx)
  have HR1 := Lib.hid (show RfP _ w6 x xs 28 from hR)
  obtain ⟨⟨c0, c1, c2⟩, hf⟩ := HS.out.heads
  have f0 := hf 2
  clear hf hR hG HR
  go_wp2_with fail
  obtain ⟨wr, hwr⟩ : ∃ wr, w6.setCell ⟨Bs, 2, none⟩ (.int .i64 V20) = wr := ⟨_, rfl⟩
  have hgr := setCell_grown (Ext.refl w6) ⟨Bs, 2, none⟩ (.int .i64 V20)
  have HS := Lib.hid (hwr ▸ HS.out.setS V20)
  have HH := Lib.hid (hwr ▸ HH.out.grown hgr hhs)
  have HR := Lib.hid (hwr ▸ HR1.out.apart hgr hsx.symm (fun b hb => Nat.ne_of_lt (Nat.lt_of_lt_of_le hb hxBs)))
  have hE := hwr ▸ hE.set (a := ⟨Bs, 2, none⟩) hBsA (.int .i64 V20)
  rw [hwr]
  clear hwr hgr HR1 f0 c0 c1 c2
  go_wp2_with fail
  go_loopw [8] (fun jv wr => ∃ j : Nat, j ≤ 16 ∧ jv = .int .i64 j ∧ RfP (· < x) wr x xs (28 + j) ∧ HeadAt wr Bh V0 V8 V9 V10 ∧ SlotAt wr Bs V11 V12 V20 (frontOf (dataAt xs) j) ∧ Ext wA wr) (fun jv wr => 16 - (intOf jv).toNat)
  case atStart => exact ⟨0, Nat.zero_le _, rfl, HR.out, HH.out, HS.out.congr (fun j _ => by simp [frontOf]), hE⟩
  case round =>
    clear HR HH HS hE
    obtain ⟨j, hj, rfl, hR, hH, hS, hE⟩ := hrel
    have HR := Lib.hid hR
    have HH := Lib.hid hH
    have HS := Lib.hid hS
    clear hR hH hS
    by_cases hlt : j < 16
    · go_wp2_with fail
      refine (DByte_calls x xs (28 + j) wr HR.out).mono ?_
      rintro e w11 ⟨rfl, hR, hG⟩
      have HR11 := Lib.hid (show RfP _ w11 x xs (28 + (j + 1)) from hR)
      have hE11 := hE.grownBy hG hxA
      have HH11 := Lib.hid (HH.out.grown hG hhx)
      have HS11 := Lib.hid (HS.out.grown hG hsx)
      obtain ⟨q, hq⟩ : ∃ q, byteAt xs (28 + j) = q := ⟨_, rfl⟩
      have hqr := byteAt_range Hxs.out (28 + j)
      rw [hq] at hqr ⊢
      obtain ⟨hq0, hq1⟩ := hqr
      have Hq := Lib.hid (show dataAt xs j = q from hq)
      obtain ⟨hc, hf⟩ := HS11.out.byte j hlt
      clear hG HR HH HS hE hq hR
      go_wp2_with fail
      go_roundw
      case rel =>
        refine ⟨j + 1, by omega, by go_num, HR11.out.apart (setCell_grown (Ext.refl w11) _ _) hsx.symm (fun b hb => Nat.ne_of_lt (Nat.lt_of_lt_of_le hb hxBs)), HH11.out.grown (setCell_grown (Ext.refl w11) _ _) hhs, ?_, hE11.set hBsA _⟩
        refine (HS11.out.set j hlt q).congr fun i hi => ?_
        unfold frontOf
        by_cases h : i = j
        · subst h; rw [if_pos rfl, if_pos (by omega), Hq.out]
        · rw [if_neg h]
          by_cases h' : i < j
          · rw [if_pos h', if_pos (by omega)]
          · rw [if_neg h', if_neg (by omega)]
      case measure => simp [intOf]; omega
    · obtain rfl : j = 16 := by omega
      rw [show ((16 : Nat) : Int) = 16 from rfl]
      have HSD := Lib.hid (HS.out.congr (e := dataAt xs) (fun j hj => by unfold frontOf; rw [if_pos hj]))
      clear HS
      go_wp2_with fail
      go_loopw [9, 10] (fun fv jv wr => ∃ j : Nat, j ≤ 4 ∧ jv = .int .i64 j ∧ (∃ fb : Bool, fv = .bool fb ∧ (fb = true ↔ ∀ i, i < j → byteAt xs (44 + i) = 0)) ∧ RfP (· < x) wr x xs (44 + j) ∧ HeadAt wr Bh V0 V8 V9 V10 ∧ SlotAt wr Bs V11 V12 V20 (dataAt xs) ∧ Ext wA wr) (fun fv jv wr => 4 - (intOf jv).toNat)
      case atStart => exact ⟨0, Nat.zero_le _, rfl, ⟨true, rfl, by simp⟩, HR.out, HH.out, HSD.out, hE⟩
      case round =>
        clear HR HH HSD hE
        obtain ⟨j, hj, rfl, ⟨fb, rfl, hB⟩, hR, hH, hS, hE⟩ := hrel
        have HR := Lib.hid hR
        have HH := Lib.hid hH
        have HS := Lib.hid hS
        have HB := Lib.hid hB
        clear hR hH hS hB
        by_cases hlt : j < 4
        · go_wp2_with fail
          refine (DByte_calls x xs (44 + j) wr HR.out).mono ?_
          rintro e w11 ⟨rfl, hR, hG⟩
          have HR11 := Lib.hid (show RfP _ w11 x xs (44 + (j + 1)) from hR)
          have hE11 := hE.grownBy hG hxA
          have HH11 := Lib.hid (HH.out.grown hG hhx)
          have HS11 := Lib.hid (HS.out.grown hG hsx)
          obtain ⟨q, hq⟩ : ∃ q, byteAt xs (44 + j) = q := ⟨_, rfl⟩
          rw [hq]
          have Hq := Lib.hid hq
          clear hG HR HH HS hE hq hR
          by_cases hq0 : q = 0
          · subst hq0
            go_wp2_with fail
            go_roundw
            case rel =>
              refine ⟨j + 1, by omega, by go_num, ⟨fb, rfl, ?_⟩, HR11.out, HH11.out, HS11.out, hE11⟩
              rw [HB.out]
              refine ⟨fun h1 i hi => ?_, fun h i hi => h i (by omega)⟩
              rcases Nat.lt_or_ge i j with h' | h'
              · exact h1 i h'
              · rw [show i = j by omega, Hq.out]
            case measure => simp [intOf]; omega
          · have nq : (q == 0) = false := beq_eq_false_iff_ne.2 hq0
            go_wp2_with fail
            go_roundw
            case rel =>
              refine ⟨j + 1, by omega, by go_num, ⟨false, rfl, ?_⟩, HR11.out, HH11.out, HS11.out, hE11⟩
              exact ⟨(fun h => by cases h), fun h => absurd (Hq.out.symm.trans (h j (by omega))) hq0⟩
            case measure => simp [intOf]; omega
        · obtain rfl : j = 4 := by omega
          rw [show ((4 : Nat) : Int) = 4 from rfl]
          go_wp2_with fail
          refine (DEnd_calls x xs 48 wr HR.out).mono ?_
          rintro e w12 ⟨rfl, hEe⟩
          have HH := Lib.hid (HH.out.ext hEe)
          have HS := Lib.hid (HS.out.ext hEe)
          have hE := hE.trans hEe
          have S1 := Lib.hid (show SlotAt w12 (A0 + 1) 0 0 0 (fun _ => 0) from hE.heap B1.out)
          have S0 := Lib.hid (show HeadAt w12 A0 0 0 0 0 from hE.heap B0.out)
          clear HR hEe
          by_cases hend : endAt xs 48 = 0
          · have hbad : slotBad xs = true → parsed xs = .tuple #[headVal 0 0 0 0, slotVal 0 0 0 (fun _ => 0), .int .i64 5] := by
              intro hb
              have : parseF xs = 5 := by rw [parseF, if_neg (fun h => h hend), if_pos hb]
              rw [parsed, this]; rfl
            have hn4 : noughtsAt xs = fb := by
              have hB := HB.out
              unfold noughtsAt
              cases fb with
              | true =>
                have := hB.1 rfl
                rw [this 0 (by decide), this 1 (by decide), this 2 (by decide), this 3 (by decide)]; rfl
              | false =>
                by_cases h0 : byteAt xs 44 = 0
                · by_cases h1 : byteAt xs 45 = 0
                  · by_cases h2 : byteAt xs 46 = 0
                    · by_cases h3 : byteAt xs 47 = 0
                      · exact absurd (hB.2 fun i hi => by
                          rcases (show i = 0 ∨ i = 1 ∨ i = 2 ∨ i = 3 by omega) with rfl | rfl | rfl | rfl <;> assumption) (by decide)
                      · rw [beq_eq_false_iff_ne.2 h3]; simp
                    · rw [beq_eq_false_iff_ne.2 h2]; simp
                  · rw [beq_eq_false_iff_ne.2 h1]; simp
                · rw [beq_eq_false_iff_ne.2 h0]; simp
            have Hbad := Lib.hid hbad
            have Hn4 := Lib.hid hn4
            have Hend := Lib.hid hend
            rw [hend]
            clear hbad hn4 hend
            have hc0 : w12.cell? ⟨Bh, 0, none⟩ = some (.int .i64 V0) := cell_of_block HH.out 0
            cases fb with
            | false =>
              have Hp := Lib.hid (Hbad.out (by unfold slotBad; rw [Hn4.out]; rfl))
              clear hc0 HH HS
              have tok3 : True := trivial
              have tok4 : True := trivial
              go_wp2_with (first | (have _t := tok3; clear _t; refine wpList_store_row rfl 24 _ _ rfl _ (slotCells 0 0 0 (fun _ => 0)) rfl rfl 24 (slotCells 0 0 0 (fun _ => 0)) (row_keep S1.out (by omega)) (slot_info ..) rfl (slot_one ..) ?_; clear tok3) | (have _t := tok4; clear _t; refine wpList_store_row rfl 30 _ _ rfl _ (headCells 0 0 0 0) rfl rfl 30 (headCells 0 0 0 0) S0.out (head_info ..) rfl (head_one ..) ?_; clear tok4))
              refine bodyPost_ret (results_parse rfl _ _ A0 (A0 + 1) 0 0 0 0 0 0 0 5 (fun _ => 0) (row_keep (row_at S0.out) (by omega)) (row_at (row_keep S1.out (by omega))) rfl rfl rfl) rfl ?_
              exact ⟨by rw [Hp.out], ((hE0.trans hE).row hwA0 _).row (by omega) _⟩
            | true =>
              by_cases hlo : V0 < 1
              · have Hp := Lib.hid (Hbad.out (by unfold slotBad; rw [HV0.out, decide_eq_false (by omega)]; simp))
                clear HS
                have tok3 : True := trivial
                have tok4 : True := trivial
                go_wp2_with (first | (have _t := tok3; clear _t; refine wpList_store_row rfl 24 _ _ rfl _ (slotCells 0 0 0 (fun _ => 0)) rfl rfl 24 (slotCells 0 0 0 (fun _ => 0)) (row_keep S1.out (by omega)) (slot_info ..) rfl (slot_one ..) ?_; clear tok3) | (have _t := tok4; clear _t; refine wpList_store_row rfl 30 _ _ rfl _ (headCells 0 0 0 0) rfl rfl 30 (headCells 0 0 0 0) S0.out (head_info ..) rfl (head_one ..) ?_; clear tok4))
                refine bodyPost_ret (results_parse rfl _ _ A0 (A0 + 1) 0 0 0 0 0 0 0 5 (fun _ => 0) (row_keep (row_at S0.out) (by omega)) (row_at (row_keep S1.out (by omega))) rfl rfl rfl) rfl ?_
                exact ⟨by rw [Hp.out], ((hE0.trans hE).row hwA0 _).row (by omega) _⟩
              · by_cases hhi : 1099511627776 < V0
                · have Hp := Lib.hid (Hbad.out (by unfold slotBad; rw [HV0.out, decide_eq_false (by omega)]; simp))
                  clear HS
                  have tok3 : True := trivial
                  have tok4 : True := trivial
                  go_wp2_with (first | (have _t := tok3; clear _t; refine wpList_store_row rfl 24 _ _ rfl _ (slotCells 0 0 0 (fun _ => 0)) rfl rfl 24 (slotCells 0 0 0 (fun _ => 0)) (row_keep S1.out (by omega)) (slot_info ..) rfl (slot_one ..) ?_; clear tok3) | (have _t := tok4; clear _t; refine wpList_store_row rfl 30 _ _ rfl _ (headCells 0 0 0 0) rfl rfl 30 (headCells 0 0 0 0) S0.out (head_info ..) rfl (head_one ..) ?_; clear tok4))
                  refine bodyPost_ret (results_parse rfl _ _ A0 (A0 + 1) 0 0 0 0 0 0 0 5 (fun _ => 0) (row_keep (row_at S0.out) (by omega)) (row_at (row_keep S1.out (by omega))) rfl rfl rfl) rfl ?_
                  exact ⟨by rw [Hp.out], ((hE0.trans hE).row hwA0 _).row (by omega) _⟩
                · have hser : 1 ≤ V0 ∧ V0 ≤ 1099511627776 := by omega
                  have nlo : decide (V0 < 1) = false := decide_eq_false hlo
                  have nhi : decide (1099511627776 < V0) = false := decide_eq_false hhi
                  have Hser := Lib.hid hser
                  clear hser hlo hhi
                  have tokl : True := trivial
                  go_wp2_with (have _t := tokl; clear _t; (refine wpList_load_rowg (by rfl) 24 _ rfl _ rfl 24 (slotCells V11 V12 V20 (dataAt xs)) (0, 0) _ HS.out Try.underlying24 rfl (slot_info ..) ?_); clear tokl)
                  refine (DCheck_calls V11 V12 V20 (dataAt xs) w12).mono ?_
                  rintro e w13 ⟨rfl, hE13⟩
                  have hE := hE.trans hE13
                  have HS := Lib.hid (HS.out.ext hE13)
                  have HH := Lib.hid (HH.out.ext hE13)
                  have S1 := Lib.hid (S1.out.ext hE13)
                  have S0 := Lib.hid (S0.out.ext hE13)
                  clear hE13 hc0
                  by_cases hck : checkF V11 V12 V20 (dataAt xs) = 0
                  · have Hp := Lib.hid (show parsed xs = .tuple #[headVal V0 V8 V9 V10, slotVal V11 V12 V20 (dataAt xs), .int .i64 0] by
                      have hb : slotBad xs = false := by unfold slotBad; rw [Hn4.out, HV0.out, HV11.out, HV12.out, HV20.out, hck, decide_eq_true Hser.out]; rfl
                      have : parseF xs = 0 := by rw [parseF, if_neg (fun h => h Hend.out), if_neg (by rw [hb]; decide)]
                      rw [parsed, if_pos this, HV0.out, HV8.out, HV9.out, HV10.out, HV11.out, HV12.out, HV20.out])
                    rw [hck]
                    clear hck
                    go_wp2_with fail
                    refine wp_region_any mixed ?_
                    refine wpAny_ready (rs := [0, 1]) (by kernel_rfl) (by simp) ?_
                    refine AllReady.cons rfl (fun K hK => ?_) (AllReady.cons rfl (fun K hK => ?_) (AllReady.nil))
                    · refine step_load_row rfl 30 _ rfl Bh rfl 30 (headCells V0 V8 V9 V10) (0, 0) _ HH.out Try.underlying30 rfl (head_info ..) (hK _ _ ?_)
                      clear hK K
                      refine wpAny_ready (rs := [1, 2]) (by kernel_rfl) (by simp) ?_
                      refine AllReady.cons rfl (fun K hK => ?_) (AllReady.cons rfl (fun K hK => ?_) (AllReady.nil))
                      · refine step_load_row rfl 24 _ rfl Bs rfl 24 (slotCells V11 V12 V20 (dataAt xs)) (0, 0) _ HS.out Try.underlying24 rfl (slot_info ..) (hK _ _ ?_)
                        clear hK K
                        refine wpAny_ready (rs := [2]) (by kernel_rfl) (by simp) ?_
                        refine AllReady.cons rfl (fun K hK => ?_) (AllReady.nil)
                        · refine step_store_row rfl 30 _ _ rfl A0 (headCells V0 V8 V9 V10) rfl rfl 30 (headCells 0 0 0 0) S0.out (head_info ..) rfl (head_one ..) (hK _ _ ?_)
                          clear hK K
                          refine wpAny_ready (rs := [3]) (by kernel_rfl) (by simp) ?_
                          refine AllReady.cons rfl (fun K hK => ?_) (AllReady.nil)
                          · refine step_store_row rfl 24 _ _ rfl (A0 + 1) (slotCells V11 V12 V20 (dataAt xs)) rfl rfl 24 (slotCells 0 0 0 (fun _ => 0)) (row_keep S1.out (by omega)) (slot_info ..) rfl (slot_one ..) (hK _ _ ?_)
                            clear hK K
                            refine wpAny_ready (rs := [4]) (by kernel_rfl) (by simp) ?_
                            refine AllReady.cons rfl (fun K hK => ?_) (AllReady.nil)
                            · refine step_assign rfl _ rfl (hK _ _ ?_)
                              clear hK K
                              refine wpAny_done (by kernel_rfl) ?_ _
                              go_wp2_with fail
                              refine bodyPost_ret (results_parse rfl _ _ A0 (A0 + 1) V0 V8 V9 V10 V11 V12 V20 0 (dataAt xs) (row_keep (row_at S0.out) (by omega)) (row_at (row_keep S1.out (by omega))) rfl rfl rfl) rfl ?_
                              exact ⟨by rw [Hp.out], (((hE0.trans hE).drew).row hwA0 _).row (by omega) _⟩
                      · refine step_store_row rfl 30 _ _ rfl A0 (headCells V0 V8 V9 V10) rfl rfl 30 (headCells 0 0 0 0) S0.out (head_info ..) rfl (head_one ..) (hK _ _ ?_)
                        clear hK K
                        refine wpAny_ready (rs := [1]) (by kernel_rfl) (by simp) ?_
                        refine AllReady.cons rfl (fun K hK => ?_) (AllReady.nil)
                        · refine step_load_row rfl 24 _ rfl Bs rfl 24 (slotCells V11 V12 V20 (dataAt xs)) (0, 0) _ (row_keep HS.out (by omega)) Try.underlying24 rfl (slot_info ..) (hK _ _ ?_)
                          clear hK K
                          refine wpAny_ready (rs := [3]) (by kernel_rfl) (by simp) ?_
                          refine AllReady.cons rfl (fun K hK => ?_) (AllReady.nil)
                          · refine step_store_row rfl 24 _ _ rfl (A0 + 1) (slotCells V11 V12 V20 (dataAt xs)) rfl rfl 24 (slotCells 0 0 0 (fun _ => 0)) (row_keep S1.out (by omega)) (slot_info ..) rfl (slot_one ..) (hK _ _ ?_)
                            clear hK K
                            refine wpAny_ready (rs := [4]) (by kernel_rfl) (by simp) ?_
                            refine AllReady.cons rfl (fun K hK => ?_) (AllReady.nil)
                            · refine step_assign rfl _ rfl (hK _ _ ?_)
                              clear hK K
                              refine wpAny_done (by kernel_rfl) ?_ _
                              go_wp2_with fail
                              refine bodyPost_ret (results_parse rfl _ _ A0 (A0 + 1) V0 V8 V9 V10 V11 V12 V20 0 (dataAt xs) (row_keep (row_at S0.out) (by omega)) (row_at (row_keep S1.out (by omega))) rfl rfl rfl) rfl ?_
                              exact ⟨by rw [Hp.out], (((hE0.trans hE).drew).row hwA0 _).row (by omega) _⟩
                    · refine step_load_row rfl 24 _ rfl Bs rfl 24 (slotCells V11 V12 V20 (dataAt xs)) (0, 0) _ HS.out Try.underlying24 rfl (slot_info ..) (hK _ _ ?_)
                      clear hK K
                      refine wpAny_ready (rs := [0]) (by kernel_rfl) (by simp) ?_
                      refine AllReady.cons rfl (fun K hK => ?_) (AllReady.nil)
                      · refine step_load_row rfl 30 _ rfl Bh rfl 30 (headCells V0 V8 V9 V10) (0, 0) _ HH.out Try.underlying30 rfl (head_info ..) (hK _ _ ?_)
                        clear hK K
                        refine wpAny_ready (rs := [2]) (by kernel_rfl) (by simp) ?_
                        refine AllReady.cons rfl (fun K hK => ?_) (AllReady.nil)
                        · refine step_store_row rfl 30 _ _ rfl A0 (headCells V0 V8 V9 V10) rfl rfl 30 (headCells 0 0 0 0) S0.out (head_info ..) rfl (head_one ..) (hK _ _ ?_)
                          clear hK K
                          refine wpAny_ready (rs := [3]) (by kernel_rfl) (by simp) ?_
                          refine AllReady.cons rfl (fun K hK => ?_) (AllReady.nil)
                          · refine step_store_row rfl 24 _ _ rfl (A0 + 1) (slotCells V11 V12 V20 (dataAt xs)) rfl rfl 24 (slotCells 0 0 0 (fun _ => 0)) (row_keep S1.out (by omega)) (slot_info ..) rfl (slot_one ..) (hK _ _ ?_)
                            clear hK K
                            refine wpAny_ready (rs := [4]) (by kernel_rfl) (by simp) ?_
                            refine AllReady.cons rfl (fun K hK => ?_) (AllReady.nil)
                            · refine step_assign rfl _ rfl (hK _ _ ?_)
                              clear hK K
                              refine wpAny_done (by kernel_rfl) ?_ _
                              go_wp2_with fail
                              refine bodyPost_ret (results_parse rfl _ _ A0 (A0 + 1) V0 V8 V9 V10 V11 V12 V20 0 (dataAt xs) (row_keep (row_at S0.out) (by omega)) (row_at (row_keep S1.out (by omega))) rfl rfl rfl) rfl ?_
                              exact ⟨by rw [Hp.out], (((hE0.trans hE).drew).row hwA0 _).row (by omega) _⟩
                  · obtain ⟨C, hC⟩ : ∃ C, checkF V11 V12 V20 (dataAt xs) = C := ⟨_, rfl⟩
                    have Hp := Lib.hid (Hbad.out (by unfold slotBad; rw [HV11.out, HV12.out, HV20.out, beq_eq_false_iff_ne.2 hck]; simp))
                    rw [hC] at hck ⊢
                    have nC : (C != 0) = true := bne_iff_ne.2 hck
                    clear hC HH HS
                    have tok3 : True := trivial
                    have tok4 : True := trivial
                    go_wp2_with (first | (have _t := tok3; clear _t; refine wpList_store_row rfl 24 _ _ rfl _ (slotCells 0 0 0 (fun _ => 0)) rfl rfl 24 (slotCells 0 0 0 (fun _ => 0)) (row_keep S1.out (by omega)) (slot_info ..) rfl (slot_one ..) ?_; clear tok3) | (have _t := tok4; clear _t; refine wpList_store_row rfl 30 _ _ rfl _ (headCells 0 0 0 0) rfl rfl 30 (headCells 0 0 0 0) S0.out (head_info ..) rfl (head_one ..) ?_; clear tok4))
                    refine bodyPost_ret (results_parse rfl _ _ A0 (A0 + 1) 0 0 0 0 0 0 0 5 (fun _ => 0) (row_keep (row_at S0.out) (by omega)) (row_at (row_keep S1.out (by omega))) rfl rfl rfl) rfl ?_
                    exact ⟨by rw [Hp.out], ((hE0.trans hE).row hwA0 _).row (by omega) _⟩
          · have hp : parsed xs = .tuple #[headVal 0 0 0 0, slotVal 0 0 0 (fun _ => 0), .int .i64 (endAt xs 48)] := by
              have : parseF xs = endAt xs 48 := by rw [parseF, if_pos hend]
              rw [parsed, this, if_neg hend]
            obtain ⟨E, hE'⟩ : ∃ E, endAt xs 48 = E := ⟨_, rfl⟩
            rw [hE'] at hend hp ⊢
            have n1 : (E == 0) = false := beq_eq_false_iff_ne.2 hend
            have n2 : (E != 0) = true := bne_iff_ne.2 hend
            have Hp := Lib.hid hp
            clear hp hE' HH HS
            have tok3 : True := trivial
            have tok4 : True := trivial
            go_wp2_with (first | (have _t := tok3; clear _t; refine wpList_store_row rfl 24 _ _ rfl _ (slotCells 0 0 0 (fun _ => 0)) rfl rfl 24 (slotCells 0 0 0 (fun _ => 0)) (row_keep S1.out (by omega)) (slot_info ..) rfl (slot_one ..) ?_; clear tok3) | (have _t := tok4; clear _t; refine wpList_store_row rfl 30 _ _ rfl _ (headCells 0 0 0 0) rfl rfl 30 (headCells 0 0 0 0) S0.out (head_info ..) rfl (head_one ..) ?_; clear tok4))
            refine bodyPost_ret (results_parse rfl _ _ A0 (A0 + 1) 0 0 0 0 0 0 0 E (fun _ => 0) (row_keep (row_at S0.out) (by omega)) (row_at (row_keep S1.out (by omega))) rfl rfl rfl) rfl ?_
            exact ⟨by rw [Hp.out], ((hE0.trans hE).row hwA0 _).row (by omega) _⟩
end Go.Proofs.Ytmbjebdkhcpclaa
