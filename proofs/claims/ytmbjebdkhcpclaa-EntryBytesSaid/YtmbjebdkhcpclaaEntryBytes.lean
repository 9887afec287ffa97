/-
  The walk of the law EntryBytes. Printed by mk_EntryBytes.py.
-/
import Derived.Test.YtmbjebdkhcpclaaEntryUnlike
import Derived.Test.YtmbjebdkhcpclaaEDk
set_option linter.unusedSimpArgs false
set_option linter.unusedVariables false
namespace Go.Proofs.Ytmbjebdkhcpclaa
open Go.RowKit
attribute [local go_sem] slotEval

theorem size_setRow (w : World) (g : Nat) (cs : Array Value) : (w.setRow g cs).heap.size = w.heap.size := by
  show (w.heap.modify g _).size = _
  rw [Array.size_modify]

set_option maxHeartbeats 8000000 in
set_option maxRecDepth 100000 in
theorem EntryBytes_walk (k l s : Int) (d : Nat → Int) (x y z u : Int) (w00 : World) (hk : (Lit.int .i64 k).wf = true) (hl : (Lit.int .i64 l).wf = true) (hs : (Lit.int .i64 s).wf = true) (hd : ∀ j, j < 16 → 0 ≤ d j ∧ d j < 256)
    (hx : (Lit.int .i64 x).wf = true) (hy : (Lit.int .i64 y).wf = true) (hz : (Lit.int .i64 z).wf = true) (hu : (Lit.int .i64 u).wf = true) :
    Calls Try.prog 7 #[slotVal k l s d, .int .i64 x, .int .i64 y, .int .i64 z, .int .i64 u] w00 fun e w' => e = .returned (.bool true) ∧ Ext w00 w' := by
  have Hd := Lib.hid hd
  have Hk := Lib.hid (bounds_i64 hk)
  have Hl := Lib.hid (bounds_i64 hl)
  have Hs := Lib.hid (bounds_i64 hs)
  have Hx := Lib.hid (bounds_i64 hx)
  have Hy := Lib.hid (bounds_i64 hy)
  have Hz := Lib.hid (bounds_i64 hz)
  have Hu := Lib.hid (bounds_i64 hu)
  clear hk hl hs hx hy hz hu
  clear hd
  obtain ⟨X, hX⟩ : ∃ Q, x % 1000 = Q := ⟨_, rfl⟩
  have HWX := Lib.hid (show ∀ w, Calls Try.prog 13 #[.int .i64 x, .int .i64 1000] w fun e w' => e = .returned (.int .i64 X) ∧ w = w' from fun w => hX ▸ within_calls x 1000 w (by decide) (by decide) Hx.out)
  have HRX := Lib.hid (show 0 ≤ X ∧ X < 1000 by omega)
  clear hX
  obtain ⟨Y, hY⟩ : ∃ Q, y % 256 = Q := ⟨_, rfl⟩
  have HWY := Lib.hid (show ∀ w, Calls Try.prog 13 #[.int .i64 y, .int .i64 256] w fun e w' => e = .returned (.int .i64 Y) ∧ w = w' from fun w => hY ▸ within_calls y 256 w (by decide) (by decide) Hy.out)
  have HRY := Lib.hid (show 0 ≤ Y ∧ Y < 256 by omega)
  clear hY
  obtain ⟨Z, hZ⟩ : ∃ Q, z % 256 = Q := ⟨_, rfl⟩
  have HWZ := Lib.hid (show ∀ w, Calls Try.prog 13 #[.int .i64 z, .int .i64 256] w fun e w' => e = .returned (.int .i64 Z) ∧ w = w' from fun w => hZ ▸ within_calls z 256 w (by decide) (by decide) Hz.out)
  have HRZ := Lib.hid (show 0 ≤ Z ∧ Z < 256 by omega)
  clear hZ
  obtain ⟨U, hU⟩ : ∃ Q, u % 256 = Q := ⟨_, rfl⟩
  have HWU := Lib.hid (show ∀ w, Calls Try.prog 13 #[.int .i64 u, .int .i64 256] w fun e w' => e = .returned (.int .i64 U) ∧ w = w' from fun w => hU ▸ within_calls u 256 w (by decide) (by decide) Hu.out)
  have HRU := Lib.hid (show 0 ≤ U ∧ U < 256 by omega)
  clear hU
  have HFX := Lib.hid (show IntKind.i64.wrap (1 + X) = 1 + X by have := HRX.out; rw [IntKind.wrap_i64]; omega)
  obtain ⟨K, hK⟩ : ∃ Q, k % 4 = Q := ⟨_, rfl⟩
  obtain ⟨L, hL⟩ : ∃ Q, goodL k l = Q := ⟨_, rfl⟩
  obtain ⟨SS, hS⟩ : ∃ Q, goodS k s = Q := ⟨_, rfl⟩
  obtain ⟨D, hD⟩ : ∃ Q, goodD k d = Q := ⟨_, rfl⟩
  have GC := Lib.hid (show ∀ w, Calls Try.prog 12 #[slotVal k l s d] w fun e w' => e = .returned (slotVal K L SS D) ∧ Ext w w' from fun w => by
    have h := Good_calls k l s d w Hk.out Hl.out Hs.out
    rw [hK, hL, hS, hD] at h
    exact h)
  have PG := Lib.hid (show parsed (entryBytes (1 + X) Y Z U K L SS D) = .tuple #[headVal (1 + X) Y Z U, slotVal K L SS D, .int .i64 0] by
    have h := parsed_good (1 + X) Y Z U k l s d (by have := HRX.out; omega)
    have h1 := HRY.out
    have h2 := HRZ.out
    have h3 := HRU.out
    rw [hK, hL, hS, hD, show Y % 256 = Y by omega, show Z % 256 = Z by omega, show U % 256 = U by omega] at h
    exact h)
  have CG := Lib.hid (show ∀ w, Calls Try.prog 16 #[slotVal K L SS D] w fun e w' => e = .returned (.int .i64 0) ∧ Ext w w' from fun w => by
    have h := Check_calls K L SS D w
    rw [show checkF K L SS D = 0 by rw [← hK, ← hL, ← hS, ← hD]; exact good_check k l s d] at h
    exact h)
  obtain ⟨CK, hCK⟩ : ∃ Q, checkF k l s d = Q := ⟨_, rfl⟩
  have CR := Lib.hid (show ∀ w, Calls Try.prog 16 #[slotVal k l s d] w fun e w' => e = .returned (.int .i64 CK) ∧ Ext w w' from fun w => hCK ▸ Check_calls k l s d w)
  have CD := Lib.hid (show ∀ w, Calls Try.prog 18 #[slotVal k l s d] w fun e w' => e = .returned (.int .i64 CK) ∧ Ext w w' from fun w => hCK ▸ DCheck_calls k l s d w)
  have HDr := Lib.hid (hD ▸ goodD_range k d Hd.out)
  clear hK hL hS hD hCK
  go_enter Try.func7, Try.ntmps7
  go_wp2_with fail
  obtain ⟨B, hB⟩ : ∃ B, w00.heap.size = B := ⟨_, rfl⟩
  obtain ⟨wA, hwA⟩ : ∃ wA, w00.alloc (.cells (slotCells k l s d) 24) = wA := ⟨_, rfl⟩
  have HS := Lib.hid (show SlotAt wA B k l s d by rw [← hwA, ← hB]; exact SlotAt.new w00 k l s d)
  have hE0 : Ext w00 wA := hwA ▸ (Ext.refl w00).alloc _
  rw [hwA, hB]
  clear hwA hB
  refine (known10_calls wA).mono ?_
  rintro e w1 ⟨rfl, hE1⟩
  have HS := Lib.hid (HS.out.ext hE1)
  have hE := hE0.trans hE1
  clear hE0 hE1
  have tok : True := trivial
  go_wp2_with (have _t := tok; clear _t; refine wpList_load_row rfl 24 _ rfl B rfl 24 (slotCells k l s d) (0, 0) _ HS.out Try.underlying24 rfl (slot_info ..) ?_; clear tok)
  refine (GC.out w1).mono ?_
  rintro e w2 ⟨rfl, hE2⟩
  have HS := Lib.hid (HS.out.ext hE2)
  have hE := hE.trans hE2
  clear hE2
  obtain ⟨b1, hb1⟩ : ∃ b1, w2.heap.size = b1 := ⟨_, rfl⟩
  have Zg := Lib.hid (show SlotAt (w2.alloc (.cells (slotCells 0 0 0 (fun _ => 0)) 24)) b1 0 0 0 (fun _ => 0) by rw [← hb1]; exact SlotAt.new w2 0 0 0 (fun _ => 0))
  have Hb1 := Lib.hid hb1
  clear hb1
  have tok : True := trivial
  go_wp2_with (have _t := tok; clear _t; (try rw [Hb1.out]); refine wpList_store_row rfl 24 _ _ rfl b1 (slotCells K L SS D) rfl rfl 24 (slotCells 0 0 0 (fun _ => 0)) Zg.out (slot_info ..) rfl (slot_one ..) ?_; clear tok)
  refine (HWX.out _).mono ?_
  rintro e w3 ⟨rfl, hw3⟩
  have hE23 : Ext w2 w3 := hw3 ▸ ((Ext.refl w2).alloc _).row (Nat.le_of_eq Hb1.out) _
  have HGs := Lib.hid (show SlotAt w3 b1 K L SS D from hw3 ▸ row_at Zg.out)
  have HS := Lib.hid (HS.out.ext hE23)
  have hE := hE.trans hE23
  clear hE23 hw3 Hb1 Zg
  have hx2 := HFX.out
  go_wp2_with fail
  refine (HWY.out w3).mono ?_
  rintro e w' ⟨rfl, rfl⟩
  go_wp2_with fail
  refine (HWZ.out w3).mono ?_
  rintro e w' ⟨rfl, rfl⟩
  go_wp2_with fail
  refine (HWU.out w3).mono ?_
  rintro e w' ⟨rfl, rfl⟩
  obtain ⟨p1, hp1⟩ : ∃ p1, w3.heap.size = p1 := ⟨_, rfl⟩
  have hgp : b1 < p1 := hp1 ▸ HGs.out.lt
  have Zh := Lib.hid (show HeadAt (w3.alloc (.cells (headCells 0 0 0 0) 30)) p1 0 0 0 0 by rw [← hp1]; exact HeadAt.new w3 0 0 0 0)
  have Zg := Lib.hid (show SlotAt (w3.alloc (.cells (headCells 0 0 0 0) 30)) b1 K L SS D from HGs.out.ext ((Ext.refl w3).alloc _))
  have Hp1 := Lib.hid hp1
  clear hp1
  have tok1 : True := trivial
  have tok2 : True := trivial
  have tok3 : True := trivial
  go_wp2_with (first | (have _t := tok1; clear _t; (try rw [Hp1.out]); refine wpList_store_row rfl 30 _ _ rfl p1 (headCells (1 + X) Y Z U) rfl rfl 30 (headCells 0 0 0 0) Zh.out (head_info ..) rfl (head_one ..) ?_; clear tok1) | (have _t := tok2; clear _t; refine wpList_load_row rfl 30 _ rfl p1 rfl 30 (headCells (1 + X) Y Z U) (0, 0) _ (row_at Zh.out) Try.underlying30 rfl (head_info ..) ?_; clear tok2) | (have _t := tok3; clear _t; refine wpList_load_row rfl 24 _ rfl b1 rfl 24 (slotCells K L SS D) (0, 0) _ (row_keep Zg.out (by omega)) Try.underlying24 rfl (slot_info ..) ?_; clear tok3))
  obtain ⟨w4, hw4⟩ : ∃ w4, (w3.alloc (.cells (headCells 0 0 0 0) 30)).setRow p1 (headCells (1 + X) Y Z U) = w4 := ⟨_, rfl⟩
  rw [hw4]
  have hE34 : Ext w3 w4 := hw4 ▸ ((Ext.refl w3).alloc _).row (Nat.le_of_eq Hp1.out) _
  have HHg := Lib.hid (show HeadAt w4 p1 (1 + X) Y Z U from hw4 ▸ row_at Zh.out)
  have HGs := Lib.hid (HGs.out.ext hE34)
  have HS := Lib.hid (HS.out.ext hE34)
  have hE := hE.trans hE34
  clear hE34 hw4 Zh Zg Hp1 hx2 hgp
  refine (PBytes_calls (1 + X) Y Z U K L SS D w4).mono ?_
  rintro e w5 ⟨v5, rfl, hO5, hE5⟩
  obtain ⟨BG, hBG⟩ : ∃ Q, entryBytes (1 + X) Y Z U K L SS D = Q := ⟨_, rfl⟩
  have hXr : ∀ x ∈ BG, 0 ≤ x ∧ x < 256 := by rw [← hBG]; exact entryBytes_range _ _ _ _ _ _ _ _ HDr.out
  have hXl : BG.length ≤ 1000000 := by rw [← hBG, entryBytes_length]; decide
  have HBG := Lib.hid hBG
  rw [hBG] at hO5 PG
  have HRv := Lib.hid (ownsRow.reads hO5)
  have HHg := Lib.hid (HHg.out.ext hE5)
  have HGs := Lib.hid (HGs.out.ext hE5)
  have HS := Lib.hid (HS.out.ext hE5)
  have hE := hE.trans hE5
  clear hE5 hO5 hBG
  go_wp2_with fail
  refine (Parse_calls v5 BG w5 hXl HRv.out hXr).mono ?_
  rintro e w6 ⟨rfl, hE6⟩
  rw [PG.out]
  have HRv := Lib.hid (HRv.out.ext hE6)
  have HHg := Lib.hid (HHg.out.ext hE6)
  have HGs := Lib.hid (HGs.out.ext hE6)
  have HS := Lib.hid (HS.out.ext hE6)
  have hE := hE.trans hE6
  clear hE6 hXr hXl
  obtain ⟨Bh6, hB6⟩ : ∃ Bh6, w6.heap.size = Bh6 := ⟨_, rfl⟩
  have Z06 := Lib.hid (show HeadAt ((w6.alloc (.cells (headCells 0 0 0 0) 30)).alloc (.cells (slotCells 0 0 0 (fun _ => 0)) 24)) Bh6 0 0 0 0 by rw [← hB6]; exact (HeadAt.new w6 0 0 0 0).ext ((Ext.refl _).alloc _))
  have Z16 := Lib.hid (show SlotAt ((w6.alloc (.cells (headCells 0 0 0 0) 30)).alloc (.cells (slotCells 0 0 0 (fun _ => 0)) 24)) (Bh6 + 1) 0 0 0 (fun _ => 0) by
    rw [← hB6]; have := SlotAt.new (w6.alloc (.cells (headCells 0 0 0 0) 30)) 0 0 0 (fun _ => 0); rwa [World.size_alloc] at this)
  have hEp6 : Ext w6 ((w6.alloc (.cells (headCells 0 0 0 0) 30)).alloc (.cells (slotCells 0 0 0 (fun _ => 0)) 24)) := ((Ext.refl w6).alloc _).alloc _
  have Hb6 := Lib.hid hB6
  clear hB6
  have tkh6 : True := trivial
  have tks6 : True := trivial
  go_wp2_with (first | (have _t := tkh6; clear _t; (try rw [Hb6.out]); refine wpList_store_row rfl 30 _ _ rfl Bh6 (headCells (1 + X) Y Z U) rfl rfl 30 (headCells 0 0 0 0) Z06.out (head_info ..) rfl (head_one ..) ?_; clear tkh6) | (have _t := tks6; clear _t; refine wpList_store_row rfl 24 _ _ rfl (Bh6 + 1) (slotCells K L SS D) rfl rfl 24 (slotCells 0 0 0 (fun _ => 0)) (row_keep Z16.out (by omega)) (slot_info ..) rfl (slot_one ..) ?_; clear tks6))
  obtain ⟨PW, hPW⟩ : ∃ PW, (((w6.alloc (.cells (headCells 0 0 0 0) 30)).alloc (.cells (slotCells 0 0 0 (fun _ => 0)) 24)).setRow Bh6 (headCells (1 + X) Y Z U)).setRow (Bh6 + 1) (slotCells K L SS D) = PW := ⟨_, rfl⟩
  have hsz : PW.heap.size = w6.heap.size + 1 + 1 := by rw [← hPW, size_setRow, size_setRow, World.size_alloc, World.size_alloc]
  have HPh := Lib.hid (show HeadAt PW Bh6 (1 + X) Y Z U from hPW ▸ (row_keep (row_at Z06.out) (by omega)))
  have HPs := Lib.hid (show SlotAt PW (Bh6 + 1) K L SS D from hPW ▸ (row_at (row_keep Z16.out (by omega))))
  have hE67 : Ext w6 PW := hPW ▸ ((Ext.refl w6).trans ((hEp6.row (Nat.le_of_eq Hb6.out) _).row (by have := Hb6.out; omega) _))
  obtain ⟨p2, hp2⟩ : ∃ p2, w6.heap.size + 1 + 1 = p2 := ⟨_, rfl⟩
  obtain ⟨w8, hw8⟩ : ∃ w8, PW.alloc (.cells (headCells x y z u) 30) = w8 := ⟨_, rfl⟩
  rw [hPW, hw8, hp2]
  have hE78 : Ext PW w8 := hw8 ▸ (Ext.refl PW).alloc _
  have HRh := Lib.hid (show HeadAt w8 p2 x y z u by rw [← hw8, ← hp2, ← hsz]; exact HeadAt.new PW x y z u)
  have HPh := Lib.hid (HPh.out.ext hE78)
  have HPs := Lib.hid (HPs.out.ext hE78)
  have hE68 := hE67.trans hE78
  have HRv := Lib.hid (HRv.out.ext hE68)
  have HHg := Lib.hid (HHg.out.ext hE68)
  have HGs := Lib.hid (HGs.out.ext hE68)
  have HS := Lib.hid (HS.out.ext hE68)
  have hE := hE.trans hE68
  clear hE68 hE67 hE78 hsz hPW hw8 hp2 Z06 Z16 Hb6 hEp6
  obtain ⟨BR, hBR⟩ : ∃ Q, entryBytes x y z u k l s d = Q := ⟨_, rfl⟩
  have HBR := Lib.hid hBR
  clear hBR PG
  refine wp_region_lives_g mixed Ext [[0], [1], [2], [3], [4], [5], [6], [7], [8], [9], [10], [11], [12], [13], [14], [15], [16], [17], [18], [19], [20], [21], [22], [23], [24], [25], [26], [27], [28], [29], [30], [31], [32], [33], [34], [35], [36], [37], [38], [39], [40], [41], [42], [43], [44]]
      [.val _ (· = v5),
       .val _ (· = .string (strOfNums BG)),
       .val _ (· = headVal (1 + X) Y Z U),
       .val _ (· = slotVal K L SS D),
       .one _ (fun v ww => Own ww w8.heap.size 5 .u8 v BG) ((fun v w w' hE h => ownsRow.ext h hE)),
       .val _ (· = .string (strOfNums BG)),
       .val _ (· = .bool true),
       .val _ (· = .bool true),
       .val _ (· = .int .i64 0),
       .val _ (· = .bool true),
       .val _ (· = .bool true),
       .val _ (· = .bool true),
       .val _ (· = headVal (1 + X) Y Z U),
       .val _ (· = headVal (1 + X) Y Z U),
       .val _ (· = .bool true),
       .val _ (· = .bool true),
       .val _ (· = .bool true),
       .val _ (· = slotVal K L SS D),
       .val _ (· = slotVal K L SS D),
       .val _ (· = .bool true),
       .val _ (· = .bool true),
       .val _ (· = .bool true),
       .val _ (· = slotVal K L SS D),
       .val _ (· = .int .i64 0),
       .val _ (· = .bool true),
       .val _ (· = .bool true),
       .val _ (· = .bool true),
       .val _ (· = slotVal k l s d),
       .val _ (· = .int .i64 CK),
       .val _ (· = slotVal k l s d),
       .val _ (· = .int .i64 CK),
       .val _ (· = .bool true),
       .val _ (· = .bool true),
       .val _ (· = .bool true),
       .val _ (· = headVal x y z u),
       .val _ (· = slotVal k l s d),
       .one _ (fun v ww => Own ww w8.heap.size 5 .u8 v BR) ((fun v w w' hE h => ownsRow.ext h hE)),
       .val _ (· = .string (strOfNums BR)),
       .val _ (· = headVal x y z u),
       .val _ (· = slotVal k l s d),
       .one _ (fun v ww => Own ww w8.heap.size 5 .u8 v BR) ((fun v w w' hE h => ownsRow.ext h hE)),
       .val _ (· = .string (strOfNums BR)),
       .val _ (· = .bool true),
       .val _ (· = .bool true),
       .val _ (· = .bool true)]
      Ext.refl (fun _ _ _ h k => h.trans k) (by kernel_rfl) (by kernel_rfl) ?steps ?post
  case steps =>
    refine ⟨?_, ?_, ?_, ?_, ?_, ?_, ?_, ?_, ?_, ?_, ?_, ?_, ?_, ?_, ?_, ?_, ?_, ?_, ?_, ?_, ?_, ?_, ?_, ?_, ?_, ?_, ?_, ?_, ?_, ?_, ?_, ?_, ?_, ?_, ?_, ?_, ?_, ?_, ?_, ?_, ?_, ?_, ?_, ?_, ?_, trivial⟩
    · refine factg_of (fact_pure Ext.refl fun σ w hE hold hk => ?_)
      have h13 : σ 13 = v5 := hold 13 (by kernel_rfl)
      exact ⟨rfl, _, op_move rfl, h13⟩
    · refine factg_of (fact_pure Ext.refl fun σ w hE hold hk => ?_)
      have h46 : σ 46 = v5 := hk.1
      exact ⟨rfl, _, op_convert rfl (by show (convert _ _ (σ 46)).run _ _ = _; rw [h46]; exact rd_string Try.underlying26 Try.underlying5 Try.underlying9 (HRv.out.ext (Ext.of_drew hE))), rfl⟩
    · refine factg_of (fact_pure Ext.refl fun σ w hE hold hk => ?_)
      have h12 : σ 12 = .pointer (some ⟨p1, 0, none⟩) := hold 12 (by kernel_rfl)
      exact ⟨rfl, _, op_load_head rfl h12 (HHg.out.ext (Ext.of_drew hE)), rfl⟩
    · refine factg_of (fact_pure Ext.refl fun σ w hE hold hk => ?_)
      have h11 : σ 11 = .pointer (some ⟨b1, 0, none⟩) := hold 11 (by kernel_rfl)
      exact ⟨rfl, _, op_load_slot rfl h11 (HGs.out.ext (Ext.of_drew hE)), rfl⟩
    · refine factg_of fun σ w hE hold hk => ?_
      have h48 : σ 48 = headVal (1 + X) Y Z U := hk.1
      have h49 : σ 49 = slotVal K L SS D := hk.2.1
      refine ⟨rfl, Does.call (op_call2 rfl Try.func11 (by kernel_rfl) (by kernel_rfl) h48 h49) (DBytes_calls (1 + X) Y Z U K L SS D w) ?_⟩
      rintro e w' ⟨v', rfl, hO', hE'⟩
      exact ⟨v', rfl, hE', ownsRow.base (HBG.out ▸ hO') (Ext.of_drew hE).size⟩
    · refine factg_of (fact_pure Ext.refl fun σ w hE hold hk => ?_)
      have h50 : (fun v ww => Own ww w8.heap.size 5 .u8 v BG) (σ 50) w := hk.1
      exact ⟨rfl, _, op_convert rfl (own_string Try.underlying26 Try.underlying5 Try.underlying9 h50), rfl⟩
    · refine factg_of (fact_pure Ext.refl fun σ w hE hold hk => ?_)
      have h47 : σ 47 = .string (strOfNums BG) := hk.1
      have h51 : σ 51 = .string (strOfNums BG) := hk.2.1
      exact ⟨rfl, _, op_eql_text rfl Try.underlying9 h47 h51, rfl⟩
    · refine factg_of (fact_pure Ext.refl fun σ w hE hold hk => ?_)
      have h52 : σ 52 = .bool true := hk.1
      exact ⟨rfl, _, op_move rfl, h52⟩
    · refine factg_of (fact_pure Ext.refl fun σ w hE hold hk => ?_)
      have h53 : σ 53 = .bool true := hk.1
      have h16 : σ 16 = .int .i64 0 := hold 16 (by kernel_rfl)
      exact ⟨(by show (asB (σ 53) == some true) = true; rw [h53]; rfl), _, op_move rfl, h16⟩
    · refine factg_of (fact_pure Ext.refl fun σ w hE hold hk => ?_)
      have h54 : σ 54 = .int .i64 0 := hk.1
      have h53 : σ 53 = .bool true := hk.2.1
      exact ⟨(by show (asB (σ 53) == some true) = true; rw [h53]; rfl), .bool true, by go_simp, rfl⟩
    · refine factg_of (fact_pure Ext.refl fun σ w hE hold hk => ?_)
      have h53 : σ 53 = .bool true := hk.1
      have h55 : σ 55 = .bool true := hk.2.1
      exact ⟨rfl, .bool true, by go_simp, rfl⟩
    · refine factg_of (fact_pure Ext.refl fun σ w hE hold hk => ?_)
      have h56 : σ 56 = .bool true := hk.1
      exact ⟨rfl, _, op_move rfl, h56⟩
    · refine factg_of (fact_pure Ext.refl fun σ w hE hold hk => ?_)
      have h57 : σ 57 = .bool true := hk.1
      have h14 : σ 14 = .pointer (some ⟨Bh6, 0, none⟩) := hold 14 (by kernel_rfl)
      exact ⟨(by show (asB (σ 57) == some true) = true; rw [h57]; rfl), _, op_load_head rfl h14 (HPh.out.ext (Ext.of_drew hE)), rfl⟩
    · refine factg_of (fact_pure Ext.refl fun σ w hE hold hk => ?_)
      have h57 : σ 57 = .bool true := hk.1
      have h12 : σ 12 = .pointer (some ⟨p1, 0, none⟩) := hold 12 (by kernel_rfl)
      exact ⟨(by show (asB (σ 57) == some true) = true; rw [h57]; rfl), _, op_load_head rfl h12 (HHg.out.ext (Ext.of_drew hE)), rfl⟩
    · refine factg_of (fact_pure Ext.refl fun σ w hE hold hk => ?_)
      have h58 : σ 58 = headVal (1 + X) Y Z U := hk.1
      have h59 : σ 59 = headVal (1 + X) Y Z U := hk.2.1
      have h57 : σ 57 = .bool true := hk.2.2.1
      exact ⟨(by show (asB (σ 57) == some true) = true; rw [h57]; rfl), _, (headB_iff _ _ _ _ _ _ _ _).2 ⟨rfl, rfl, rfl, rfl⟩ ▸ op_eql_head rfl h58 h59, rfl⟩
    · refine factg_of (fact_pure Ext.refl fun σ w hE hold hk => ?_)
      have h57 : σ 57 = .bool true := hk.1
      have h60 : σ 60 = .bool true := hk.2.1
      exact ⟨rfl, .bool true, by go_simp, rfl⟩
    · refine factg_of (fact_pure Ext.refl fun σ w hE hold hk => ?_)
      have h61 : σ 61 = .bool true := hk.1
      exact ⟨rfl, _, op_move rfl, h61⟩
    · refine factg_of (fact_pure Ext.refl fun σ w hE hold hk => ?_)
      have h62 : σ 62 = .bool true := hk.1
      have h15 : σ 15 = .pointer (some ⟨(Bh6 + 1), 0, none⟩) := hold 15 (by kernel_rfl)
      exact ⟨(by show (asB (σ 62) == some true) = true; rw [h62]; rfl), _, op_load_slot rfl h15 (HPs.out.ext (Ext.of_drew hE)), rfl⟩
    · refine factg_of (fact_pure Ext.refl fun σ w hE hold hk => ?_)
      have h62 : σ 62 = .bool true := hk.1
      have h11 : σ 11 = .pointer (some ⟨b1, 0, none⟩) := hold 11 (by kernel_rfl)
      exact ⟨(by show (asB (σ 62) == some true) = true; rw [h62]; rfl), _, op_load_slot rfl h11 (HGs.out.ext (Ext.of_drew hE)), rfl⟩
    · refine factg_of (fact_pure Ext.refl fun σ w hE hold hk => ?_)
      have h63 : σ 63 = slotVal K L SS D := hk.1
      have h64 : σ 64 = slotVal K L SS D := hk.2.1
      have h62 : σ 62 = .bool true := hk.2.2.1
      exact ⟨(by show (asB (σ 62) == some true) = true; rw [h62]; rfl), _, (slotB_iff _ _ _ _ _ _ _ _).2 ⟨rfl, rfl, rfl, fun _ _ => rfl⟩ ▸ op_eql_slot rfl h63 h64, rfl⟩
    · refine factg_of (fact_pure Ext.refl fun σ w hE hold hk => ?_)
      have h62 : σ 62 = .bool true := hk.1
      have h65 : σ 65 = .bool true := hk.2.1
      exact ⟨rfl, .bool true, by go_simp, rfl⟩
    · refine factg_of (fact_pure Ext.refl fun σ w hE hold hk => ?_)
      have h66 : σ 66 = .bool true := hk.1
      exact ⟨rfl, _, op_move rfl, h66⟩
    · refine factg_of (fact_pure Ext.refl fun σ w hE hold hk => ?_)
      have h67 : σ 67 = .bool true := hk.1
      have h11 : σ 11 = .pointer (some ⟨b1, 0, none⟩) := hold 11 (by kernel_rfl)
      exact ⟨(by show (asB (σ 67) == some true) = true; rw [h67]; rfl), _, op_load_slot rfl h11 (HGs.out.ext (Ext.of_drew hE)), rfl⟩
    · refine factg_of fun σ w hE hold hk => ?_
      have h68 : σ 68 = slotVal K L SS D := hk.1
      have h67 : σ 67 = .bool true := hk.2.1
      refine ⟨(by show (asB (σ 67) == some true) = true; rw [h67]; rfl), Does.call (op_call1 rfl Try.func16 (by kernel_rfl) (by kernel_rfl) h68) (CG.out w) ?_⟩
      rintro e w' ⟨rfl, hE'⟩
      exact ⟨_, rfl, hE', rfl⟩
    · refine factg_of (fact_pure Ext.refl fun σ w hE hold hk => ?_)
      have h69 : σ 69 = .int .i64 0 := hk.1
      have h67 : σ 67 = .bool true := hk.2.1
      exact ⟨(by show (asB (σ 67) == some true) = true; rw [h67]; rfl), .bool true, by go_simp, rfl⟩
    · refine factg_of (fact_pure Ext.refl fun σ w hE hold hk => ?_)
      have h67 : σ 67 = .bool true := hk.1
      have h70 : σ 70 = .bool true := hk.2.1
      exact ⟨rfl, .bool true, by go_simp, rfl⟩
    · refine factg_of (fact_pure Ext.refl fun σ w hE hold hk => ?_)
      have h71 : σ 71 = .bool true := hk.1
      exact ⟨rfl, _, op_move rfl, h71⟩
    · refine factg_of (fact_pure Ext.refl fun σ w hE hold hk => ?_)
      have h72 : σ 72 = .bool true := hk.1
      have h5 : σ 5 = .pointer (some ⟨B, 0, none⟩) := hold 5 (by kernel_rfl)
      exact ⟨(by show (asB (σ 72) == some true) = true; rw [h72]; rfl), _, op_load_slot rfl h5 (HS.out.ext (Ext.of_drew hE)), rfl⟩
    · refine factg_of fun σ w hE hold hk => ?_
      have h73 : σ 73 = slotVal k l s d := hk.1
      have h72 : σ 72 = .bool true := hk.2.1
      refine ⟨(by show (asB (σ 72) == some true) = true; rw [h72]; rfl), Does.call (op_call1 rfl Try.func16 (by kernel_rfl) (by kernel_rfl) h73) (CR.out w) ?_⟩
      rintro e w' ⟨rfl, hE'⟩
      exact ⟨_, rfl, hE', rfl⟩
    · refine factg_of (fact_pure Ext.refl fun σ w hE hold hk => ?_)
      have h72 : σ 72 = .bool true := hk.1
      have h5 : σ 5 = .pointer (some ⟨B, 0, none⟩) := hold 5 (by kernel_rfl)
      exact ⟨(by show (asB (σ 72) == some true) = true; rw [h72]; rfl), _, op_load_slot rfl h5 (HS.out.ext (Ext.of_drew hE)), rfl⟩
    · refine factg_of fun σ w hE hold hk => ?_
      have h75 : σ 75 = slotVal k l s d := hk.1
      have h72 : σ 72 = .bool true := hk.2.2.1
      refine ⟨(by show (asB (σ 72) == some true) = true; rw [h72]; rfl), Does.call (op_call1 rfl Try.func18 (by kernel_rfl) (by kernel_rfl) h75) (CD.out w) ?_⟩
      rintro e w' ⟨rfl, hE'⟩
      exact ⟨_, rfl, hE', rfl⟩
    · refine factg_of (fact_pure Ext.refl fun σ w hE hold hk => ?_)
      have h74 : σ 74 = .int .i64 CK := hk.1
      have h76 : σ 76 = .int .i64 CK := hk.2.1
      have h72 : σ 72 = .bool true := hk.2.2.1
      exact ⟨(by show (asB (σ 72) == some true) = true; rw [h72]; rfl), .bool true, by go_simp, rfl⟩
    · refine factg_of (fact_pure Ext.refl fun σ w hE hold hk => ?_)
      have h72 : σ 72 = .bool true := hk.1
      have h77 : σ 77 = .bool true := hk.2.1
      exact ⟨rfl, .bool true, by go_simp, rfl⟩
    · refine factg_of (fact_pure Ext.refl fun σ w hE hold hk => ?_)
      have h78 : σ 78 = .bool true := hk.1
      exact ⟨rfl, _, op_move rfl, h78⟩
    · refine factg_of (fact_pure Ext.refl fun σ w hE hold hk => ?_)
      have h79 : σ 79 = .bool true := hk.1
      have h17 : σ 17 = .pointer (some ⟨p2, 0, none⟩) := hold 17 (by kernel_rfl)
      exact ⟨(by show (asB (σ 79) == some true) = true; rw [h79]; rfl), _, op_load_head rfl h17 (HRh.out.ext (Ext.of_drew hE)), rfl⟩
    · refine factg_of (fact_pure Ext.refl fun σ w hE hold hk => ?_)
      have h79 : σ 79 = .bool true := hk.1
      have h5 : σ 5 = .pointer (some ⟨B, 0, none⟩) := hold 5 (by kernel_rfl)
      exact ⟨(by show (asB (σ 79) == some true) = true; rw [h79]; rfl), _, op_load_slot rfl h5 (HS.out.ext (Ext.of_drew hE)), rfl⟩
    · refine factg_of fun σ w hE hold hk => ?_
      have h80 : σ 80 = headVal x y z u := hk.1
      have h81 : σ 81 = slotVal k l s d := hk.2.1
      have h79 : σ 79 = .bool true := hk.2.2.1
      refine ⟨(by show (asB (σ 79) == some true) = true; rw [h79]; rfl), Does.call (op_call2 rfl Try.func17 (by kernel_rfl) (by kernel_rfl) h80 h81) (PBytes_calls x y z u k l s d w) ?_⟩
      rintro e w' ⟨v', rfl, hO', hE'⟩
      exact ⟨v', rfl, hE', ownsRow.base (HBR.out ▸ hO') (Ext.of_drew hE).size⟩
    · refine factg_of (fact_pure Ext.refl fun σ w hE hold hk => ?_)
      have h82 : (fun v ww => Own ww w8.heap.size 5 .u8 v BR) (σ 82) w := hk.1
      have h79 : σ 79 = .bool true := hk.2.1
      exact ⟨(by show (asB (σ 79) == some true) = true; rw [h79]; rfl), _, op_convert rfl (own_string Try.underlying26 Try.underlying5 Try.underlying9 h82), rfl⟩
    · refine factg_of (fact_pure Ext.refl fun σ w hE hold hk => ?_)
      have h79 : σ 79 = .bool true := hk.1
      have h17 : σ 17 = .pointer (some ⟨p2, 0, none⟩) := hold 17 (by kernel_rfl)
      exact ⟨(by show (asB (σ 79) == some true) = true; rw [h79]; rfl), _, op_load_head rfl h17 (HRh.out.ext (Ext.of_drew hE)), rfl⟩
    · refine factg_of (fact_pure Ext.refl fun σ w hE hold hk => ?_)
      have h79 : σ 79 = .bool true := hk.1
      have h5 : σ 5 = .pointer (some ⟨B, 0, none⟩) := hold 5 (by kernel_rfl)
      exact ⟨(by show (asB (σ 79) == some true) = true; rw [h79]; rfl), _, op_load_slot rfl h5 (HS.out.ext (Ext.of_drew hE)), rfl⟩
    · refine factg_of fun σ w hE hold hk => ?_
      have h84 : σ 84 = headVal x y z u := hk.1
      have h85 : σ 85 = slotVal k l s d := hk.2.1
      have h79 : σ 79 = .bool true := hk.2.2.2.1
      refine ⟨(by show (asB (σ 79) == some true) = true; rw [h79]; rfl), Does.call (op_call2 rfl Try.func11 (by kernel_rfl) (by kernel_rfl) h84 h85) (DBytes_calls x y z u k l s d w) ?_⟩
      rintro e w' ⟨v', rfl, hO', hE'⟩
      exact ⟨v', rfl, hE', ownsRow.base (HBR.out ▸ hO') (Ext.of_drew hE).size⟩
    · refine factg_of (fact_pure Ext.refl fun σ w hE hold hk => ?_)
      have h86 : (fun v ww => Own ww w8.heap.size 5 .u8 v BR) (σ 86) w := hk.1
      have h79 : σ 79 = .bool true := hk.2.1
      exact ⟨(by show (asB (σ 79) == some true) = true; rw [h79]; rfl), _, op_convert rfl (own_string Try.underlying26 Try.underlying5 Try.underlying9 h86), rfl⟩
    · refine factg_of (fact_pure Ext.refl fun σ w hE hold hk => ?_)
      have h83 : σ 83 = .string (strOfNums BR) := hk.1
      have h87 : σ 87 = .string (strOfNums BR) := hk.2.1
      have h79 : σ 79 = .bool true := hk.2.2.1
      exact ⟨(by show (asB (σ 79) == some true) = true; rw [h79]; rfl), _, op_eql_text rfl Try.underlying9 h83 h87, rfl⟩
    · refine factg_of (fact_pure Ext.refl fun σ w hE hold hk => ?_)
      have h79 : σ 79 = .bool true := hk.1
      have h88 : σ 88 = .bool true := hk.2.1
      exact ⟨rfl, .bool true, by go_simp, rfl⟩
    · refine factg_of (fact_pure Ext.refl fun σ w hE hold hk => ?_)
      have h89 : σ 89 = .bool true := hk.1
      exact ⟨rfl, _, op_assign rfl, h89⟩
  case post =>
    intro σ w3 hE3 hL
    have h10 : σ 10 = .bool true := hL.2.2.2.2.2.2.2.2.2.2.2.2.2.2.2.2.2.2.2.2.2.2.2.2.2.2.2.2.2.2.2.2.2.2.2.2.2.2.2.2.2.2.2.2.1
    clear hL
    simp only [putAll, List.map_cons, List.map_nil, List.zip_cons_cons, List.zip_nil_right, List.foldl_cons, List.foldl_nil, Act.put, Option.getD_some, List.setIfInBounds_toArray, List.set_cons_zero, List.set_cons_succ]
    rw [h10]; clear h10
    go_wp2_with fail
    go_ret
    exact ⟨rfl, hE.trans (Ext.of_drew hE3)⟩
end Go.Proofs.Ytmbjebdkhcpclaa
