/-
  The document's writing of a slot. Printed by mk_EDb.py.
-/
import Derived.Test.YtmbjebdkhcpclaaEBy
set_option linter.unusedSimpArgs false
set_option linter.unusedVariables false
namespace Go.Proofs.Ytmbjebdkhcpclaa
open Go.RowKit
attribute [local go_sem] slotEval

set_option maxHeartbeats 4000000 in
set_option maxRecDepth 100000 in
theorem DBytes_calls (a b c e k l s : Int) (d : Nat → Int) (w : World) :
    Calls Try.prog 11 #[headVal a b c e, slotVal k l s d] w fun e' w' => ∃ v', e' = .returned v' ∧ Own w' w.heap.size 5 .u8 v' (entryBytes a b c e k l s d) ∧ Ext w w' := by
  go_enter Try.func11, Try.ntmps11
  go_wp2_with fail
  obtain ⟨A0, hA0⟩ : ∃ A0, w.heap.size = A0 := ⟨_, rfl⟩
  obtain ⟨wA, hwA⟩ : ∃ wA, (w.alloc (.cells (headCells a b c e) 30)).alloc (.cells (slotCells k l s d) 24) = wA := ⟨_, rfl⟩
  have hwA0 : w.heap.size ≤ A0 := Nat.le_of_eq hA0
  have hE0 : Ext w wA := hwA ▸ ((Ext.refl w).alloc _).alloc _
  have HH := Lib.hid (show HeadAt wA A0 a b c e by rw [← hwA, ← hA0]; exact (HeadAt.new w a b c e).ext ((Ext.refl _).alloc _))
  have HS := Lib.hid (show SlotAt wA (A0 + 1) k l s d by
    rw [← hwA, ← hA0]; have := SlotAt.new (w.alloc (.cells (headCells a b c e) 30)) k l s d; rwa [World.size_alloc] at this)
  have hs : wA.heap.size = A0 + 2 := by rw [← hwA, ← hA0]; simp
  rw [hwA, hA0]
  clear hwA hA0
  refine (refInt_calls (.slice none 0 0) [] a wA wA.heap.size (Nat.le_refl _) (by simp) (own_nil ..)).mono ?_
  rintro e' w1 ⟨v1, rfl, hO1, hG1⟩
  have hE1 : Ext wA w1 := hG1.below (Nat.le_refl _) (fun k hk => by cases hk)
  have HO1 := Lib.hid (show Own w1 wA.heap.size 5 .u8 v1 (leBytes 8 a) from hO1)
  have hB0 : wA.heap.size ≤ w1.heap.size := hE1.size
  have HH1 := Lib.hid (HH.out.ext hE1)
  have HS1 := Lib.hid (HS.out.ext hE1)
  clear hO1 hG1
  go_wp2_with fail
  obtain ⟨⟨ch0, ch1, ch2, ch3⟩, _⟩ := HH1.out.cells
  obtain ⟨⟨cs0, cs1, cs2⟩, _⟩ := HS1.out.heads
  refine wp_region_vchain mixed [3, 6, 9, 12, 13]
      [(· = v1),
       (· = .pointer (some ⟨A0, 1, none⟩)),
       (· = .int .i64 b),
       (fun _ => True),
       (· = .pointer (some ⟨A0, 2, none⟩)),
       (· = .int .i64 c),
       (fun _ => True),
       (· = .pointer (some ⟨A0, 3, none⟩)),
       (· = .int .i64 e),
       (fun _ => True),
       (· = .pointer (some ⟨A0 + 1, 0, none⟩)),
       (· = .int .i64 k),
       (fun _ => True),
       (fun _ => True)]
      (wA.heap.size) (v1) (fun kk vv ww => match kk with | 0 => Own ww (wA.heap.size) 5 .u8 vv (leBytes 8 a) | 1 => Own ww (wA.heap.size) 5 .u8 vv (leBytes 8 a ++ leBytes 1 b) | 2 => Own ww (wA.heap.size) 5 .u8 vv (leBytes 8 a ++ leBytes 1 b ++ leBytes 1 c) | 3 => Own ww (wA.heap.size) 5 .u8 vv (leBytes 8 a ++ leBytes 1 b ++ leBytes 1 c ++ leBytes 1 e) | 4 => Own ww (wA.heap.size) 5 .u8 vv (leBytes 8 a ++ leBytes 1 b ++ leBytes 1 c ++ leBytes 1 e ++ leBytes 1 k) | _ => Own ww (wA.heap.size) 5 .u8 vv (leBytes 8 a ++ leBytes 1 b ++ leBytes 1 c ++ leBytes 1 e ++ leBytes 1 k))
      (by kernel_rfl) (by kernel_rfl) (by decide) ?start ?steps ?post
  case start => exact HO1.out
  case steps =>
    refine ⟨?_, ?_, ?_, ?_, ?_, ?_, ?_, ?_, ?_, ?_, ?_, ?_, ?_, ?_, trivial⟩
    · refine vchain_pure (by kernel_rfl) fun σ w hE hold late hk => ?_
      have h5 : σ 5 = v1 := late 13 (by kernel_rfl)
      exact ⟨rfl, _, op_move rfl, h5⟩
    · refine vchain_pure (by kernel_rfl) fun σ w hE hold late hk => ?_
      have h2 : σ 2 = .pointer (some ⟨A0, 0, none⟩) := hold 2 (by kernel_rfl)
      exact ⟨rfl, .pointer (some ⟨A0, 1, none⟩), by go_simp, rfl⟩
    · refine vchain_pure (by kernel_rfl) fun σ w hE hold late hk => ?_
      have h10 : σ 10 = .pointer (some ⟨A0, 1, none⟩) := hk.1
      have hcl := (Below.cell hE (p := ⟨A0, 1, none⟩) (by show A0 < _; omega)).trans ch1
      exact ⟨rfl, .int .i64 b, by go_simp, rfl⟩
    · refine vchain_turn (k := 0) (by kernel_rfl) fun σ w hE hold late hk hT => ?_
      have hT : Own w (wA.heap.size) 5 .u8 v1 (leBytes 8 a) := hT
      have hBw : wA.heap.size ≤ w.heap.size := Nat.le_trans hB0 hE.size
      have h9 : σ 9 = v1 := hk.1
      have h11 : σ 11 = .int .i64 b := hk.2.1
      refine ⟨rfl, Does.call (op_call2 rfl Try.func20 (by kernel_rfl) (by kernel_rfl) h9 h11) (refByte_calls v1 (leBytes 8 a) b w wA.heap.size hBw (by simp [leBytes_length]) hT) ?_⟩
      rintro e w' ⟨v', rfl, hO', hG⟩
      exact ⟨v', rfl, hG.below hBw (fun q hq => (hT.lt q hq).1), hO', trivial⟩
    · refine vchain_pure (by kernel_rfl) fun σ w hE hold late hk => ?_
      have h2 : σ 2 = .pointer (some ⟨A0, 0, none⟩) := hold 2 (by kernel_rfl)
      exact ⟨rfl, .pointer (some ⟨A0, 2, none⟩), by go_simp, rfl⟩
    · refine vchain_pure (by kernel_rfl) fun σ w hE hold late hk => ?_
      have h13 : σ 13 = .pointer (some ⟨A0, 2, none⟩) := hk.1
      have hcl := (Below.cell hE (p := ⟨A0, 2, none⟩) (by show A0 < _; omega)).trans ch2
      exact ⟨rfl, .int .i64 c, by go_simp, rfl⟩
    · refine vchain_turn (k := 1) (by kernel_rfl) fun σ w hE hold late hk hT => ?_
      have hT : Own w (wA.heap.size) 5 .u8 (σ 12) (leBytes 8 a ++ leBytes 1 b) := hT
      have hBw : wA.heap.size ≤ w.heap.size := Nat.le_trans hB0 hE.size
      have h14 : σ 14 = .int .i64 c := hk.2.1
      refine ⟨rfl, Does.call (op_call2 rfl Try.func20 (by kernel_rfl) (by kernel_rfl) (rfl) h14) (refByte_calls (σ 12) (leBytes 8 a ++ leBytes 1 b) c w wA.heap.size hBw (by simp [leBytes_length]) hT) ?_⟩
      rintro e w' ⟨v', rfl, hO', hG⟩
      exact ⟨v', rfl, hG.below hBw (fun q hq => (hT.lt q hq).1), hO', trivial⟩
    · refine vchain_pure (by kernel_rfl) fun σ w hE hold late hk => ?_
      have h2 : σ 2 = .pointer (some ⟨A0, 0, none⟩) := hold 2 (by kernel_rfl)
      exact ⟨rfl, .pointer (some ⟨A0, 3, none⟩), by go_simp, rfl⟩
    · refine vchain_pure (by kernel_rfl) fun σ w hE hold late hk => ?_
      have h16 : σ 16 = .pointer (some ⟨A0, 3, none⟩) := hk.1
      have hcl := (Below.cell hE (p := ⟨A0, 3, none⟩) (by show A0 < _; omega)).trans ch3
      exact ⟨rfl, .int .i64 e, by go_simp, rfl⟩
    · refine vchain_turn (k := 2) (by kernel_rfl) fun σ w hE hold late hk hT => ?_
      have hT : Own w (wA.heap.size) 5 .u8 (σ 15) (leBytes 8 a ++ leBytes 1 b ++ leBytes 1 c) := hT
      have hBw : wA.heap.size ≤ w.heap.size := Nat.le_trans hB0 hE.size
      have h17 : σ 17 = .int .i64 e := hk.2.1
      refine ⟨rfl, Does.call (op_call2 rfl Try.func20 (by kernel_rfl) (by kernel_rfl) (rfl) h17) (refByte_calls (σ 15) (leBytes 8 a ++ leBytes 1 b ++ leBytes 1 c) e w wA.heap.size hBw (by simp [leBytes_length]) hT) ?_⟩
      rintro e w' ⟨v', rfl, hO', hG⟩
      exact ⟨v', rfl, hG.below hBw (fun q hq => (hT.lt q hq).1), hO', trivial⟩
    · refine vchain_pure (by kernel_rfl) fun σ w hE hold late hk => ?_
      have h3 : σ 3 = .pointer (some ⟨A0 + 1, 0, none⟩) := hold 3 (by kernel_rfl)
      exact ⟨rfl, .pointer (some ⟨A0 + 1, 0, none⟩), by go_simp, rfl⟩
    · refine vchain_pure (by kernel_rfl) fun σ w hE hold late hk => ?_
      have h19 : σ 19 = .pointer (some ⟨A0 + 1, 0, none⟩) := hk.1
      have hcl := (Below.cell hE (p := ⟨(A0 + 1), 0, none⟩) (by show (A0 + 1) < _; omega)).trans cs0
      exact ⟨rfl, .int .i64 k, by go_simp, rfl⟩
    · refine vchain_turn (k := 3) (by kernel_rfl) fun σ w hE hold late hk hT => ?_
      have hT : Own w (wA.heap.size) 5 .u8 (σ 18) (leBytes 8 a ++ leBytes 1 b ++ leBytes 1 c ++ leBytes 1 e) := hT
      have hBw : wA.heap.size ≤ w.heap.size := Nat.le_trans hB0 hE.size
      have h20 : σ 20 = .int .i64 k := hk.2.1
      refine ⟨rfl, Does.call (op_call2 rfl Try.func20 (by kernel_rfl) (by kernel_rfl) (rfl) h20) (refByte_calls (σ 18) (leBytes 8 a ++ leBytes 1 b ++ leBytes 1 c ++ leBytes 1 e) k w wA.heap.size hBw (by simp [leBytes_length]) hT) ?_⟩
      rintro e w' ⟨v', rfl, hO', hG⟩
      exact ⟨v', rfl, hG.below hBw (fun q hq => (hT.lt q hq).1), hO', trivial⟩
    · refine vchain_turn (k := 4) (by kernel_rfl) fun σ w hE hold late hk hT => ?_
      have hT : Own w (wA.heap.size) 5 .u8 (σ 21) (leBytes 8 a ++ leBytes 1 b ++ leBytes 1 c ++ leBytes 1 e ++ leBytes 1 k) := hT
      have hBw : wA.heap.size ≤ w.heap.size := Nat.le_trans hB0 hE.size
      exact ⟨rfl, Does.ok (op_assign rfl) ⟨Below.refl _ _, hT, trivial⟩⟩
  case post =>
    intro σ w3 hE3 hT hL
    have hT : Own w3 (wA.heap.size) 5 .u8 (σ 5) (leBytes 8 a ++ leBytes 1 b ++ leBytes 1 c ++ leBytes 1 e ++ leBytes 1 k) := hT
    clear hL
    simp only [putAll, List.map_cons, List.map_nil, List.zip_cons_cons, List.zip_nil_right, List.foldl_cons, List.foldl_nil, Act.put, Option.getD_some, List.setIfInBounds_toArray, List.set_cons_zero, List.set_cons_succ]
    obtain ⟨v2, hv2⟩ : ∃ v2, σ 5 = v2 := ⟨_, rfl⟩
    rw [hv2] at hT ⊢
    have hEa := hE3
    have HO2 := Lib.hid hT
    have HS1 := Lib.hid (HS1.out.below hE3 (by omega))
    have hE1 : Ext wA w3 := Below.trans hE1 hE3
    have hB0 : wA.heap.size ≤ w3.heap.size := hE1.size
    clear hT hE3 hv2 HO1 HH1 ch0 ch1 ch2 ch3 cs0 cs1 cs2 hEa
    obtain ⟨⟨cs0, cs1, cs2⟩, _⟩ := HS1.out.heads
    go_wp2_with fail
    refine wp_region_vchain mixed [3, 6, 9, 10]
        [(· = v2),
         (· = .pointer (some ⟨A0 + 1, 1, none⟩)),
         (· = .int .i64 l),
         (fun _ => True),
         (· = .pointer (some ⟨A0 + 1, 2, none⟩)),
         (· = .int .i64 s),
         (fun _ => True),
         (· = .pointer (some ⟨A0 + 1, 3, none⟩)),
         (· = .slice (some ⟨A0 + 1, 3, none⟩) 16 16),
         (fun _ => True),
         (fun _ => True)]
        (wA.heap.size) (v2) (fun kk vv ww => match kk with | 0 => Own ww (wA.heap.size) 5 .u8 vv (leBytes 8 a ++ leBytes 1 b ++ leBytes 1 c ++ leBytes 1 e ++ leBytes 1 k) | 1 => Own ww (wA.heap.size) 5 .u8 vv (leBytes 8 a ++ leBytes 1 b ++ leBytes 1 c ++ leBytes 1 e ++ leBytes 1 k ++ leBytes 8 l) | 2 => Own ww (wA.heap.size) 5 .u8 vv (leBytes 8 a ++ leBytes 1 b ++ leBytes 1 c ++ leBytes 1 e ++ leBytes 1 k ++ leBytes 8 l ++ leBytes 8 s) | 3 => Own ww (wA.heap.size) 5 .u8 vv (leBytes 8 a ++ leBytes 1 b ++ leBytes 1 c ++ leBytes 1 e ++ leBytes 1 k ++ leBytes 8 l ++ leBytes 8 s ++ dataList d) | _ => Own ww (wA.heap.size) 5 .u8 vv (leBytes 8 a ++ leBytes 1 b ++ leBytes 1 c ++ leBytes 1 e ++ leBytes 1 k ++ leBytes 8 l ++ leBytes 8 s ++ dataList d))
        (by kernel_rfl) (by kernel_rfl) (by decide) ?start ?steps ?post
    case start => exact HO2.out
    case steps =>
      refine ⟨?_, ?_, ?_, ?_, ?_, ?_, ?_, ?_, ?_, ?_, ?_, trivial⟩
      · refine vchain_pure (by kernel_rfl) fun σ w hE hold late hk => ?_
        have h5 : σ 5 = v2 := late 10 (by kernel_rfl)
        exact ⟨rfl, _, op_move rfl, h5⟩
      · refine vchain_pure (by kernel_rfl) fun σ w hE hold late hk => ?_
        have h3 : σ 3 = .pointer (some ⟨A0 + 1, 0, none⟩) := hold 3 (by kernel_rfl)
        exact ⟨rfl, .pointer (some ⟨A0 + 1, 1, none⟩), by go_simp, rfl⟩
      · refine vchain_pure (by kernel_rfl) fun σ w hE hold late hk => ?_
        have h23 : σ 23 = .pointer (some ⟨A0 + 1, 1, none⟩) := hk.1
        have hcl := (Below.cell hE (p := ⟨(A0 + 1), 1, none⟩) (by show (A0 + 1) < _; omega)).trans cs1
        exact ⟨rfl, .int .i64 l, by go_simp, rfl⟩
      · refine vchain_turn (k := 0) (by kernel_rfl) fun σ w hE hold late hk hT => ?_
        have hT : Own w (wA.heap.size) 5 .u8 v2 (leBytes 8 a ++ leBytes 1 b ++ leBytes 1 c ++ leBytes 1 e ++ leBytes 1 k) := hT
        have hBw : wA.heap.size ≤ w.heap.size := Nat.le_trans hB0 hE.size
        have h22 : σ 22 = v2 := hk.1
        have h24 : σ 24 = .int .i64 l := hk.2.1
        refine ⟨rfl, Does.call (op_call2 rfl Try.func19 (by kernel_rfl) (by kernel_rfl) h22 h24) (refInt_calls v2 (leBytes 8 a ++ leBytes 1 b ++ leBytes 1 c ++ leBytes 1 e ++ leBytes 1 k) l w wA.heap.size hBw (by simp [leBytes_length]) hT) ?_⟩
        rintro e w' ⟨v', rfl, hO', hG⟩
        exact ⟨v', rfl, hG.below hBw (fun q hq => (hT.lt q hq).1), hO', trivial⟩
      · refine vchain_pure (by kernel_rfl) fun σ w hE hold late hk => ?_
        have h3 : σ 3 = .pointer (some ⟨A0 + 1, 0, none⟩) := hold 3 (by kernel_rfl)
        exact ⟨rfl, .pointer (some ⟨A0 + 1, 2, none⟩), by go_simp, rfl⟩
      · refine vchain_pure (by kernel_rfl) fun σ w hE hold late hk => ?_
        have h26 : σ 26 = .pointer (some ⟨A0 + 1, 2, none⟩) := hk.1
        have hcl := (Below.cell hE (p := ⟨(A0 + 1), 2, none⟩) (by show (A0 + 1) < _; omega)).trans cs2
        exact ⟨rfl, .int .i64 s, by go_simp, rfl⟩
      · refine vchain_turn (k := 1) (by kernel_rfl) fun σ w hE hold late hk hT => ?_
        have hT : Own w (wA.heap.size) 5 .u8 (σ 25) (leBytes 8 a ++ leBytes 1 b ++ leBytes 1 c ++ leBytes 1 e ++ leBytes 1 k ++ leBytes 8 l) := hT
        have hBw : wA.heap.size ≤ w.heap.size := Nat.le_trans hB0 hE.size
        have h27 : σ 27 = .int .i64 s := hk.2.1
        refine ⟨rfl, Does.call (op_call2 rfl Try.func19 (by kernel_rfl) (by kernel_rfl) (rfl) h27) (refInt_calls (σ 25) (leBytes 8 a ++ leBytes 1 b ++ leBytes 1 c ++ leBytes 1 e ++ leBytes 1 k ++ leBytes 8 l) s w wA.heap.size hBw (by simp [leBytes_length]) hT) ?_⟩
        rintro e w' ⟨v', rfl, hO', hG⟩
        exact ⟨v', rfl, hG.below hBw (fun q hq => (hT.lt q hq).1), hO', trivial⟩
      · refine vchain_pure (by kernel_rfl) fun σ w hE hold late hk => ?_
        have h3 : σ 3 = .pointer (some ⟨A0 + 1, 0, none⟩) := hold 3 (by kernel_rfl)
        exact ⟨rfl, .pointer (some ⟨A0 + 1, 3, none⟩), by go_simp, rfl⟩
      · refine vchain_pure (by kernel_rfl) fun σ w hE hold late hk => ?_
        have h29 : σ 29 = .pointer (some ⟨A0 + 1, 3, none⟩) := hk.1
        exact ⟨rfl, .slice (some ⟨A0 + 1, 3, none⟩) 16 16, by go_simp, rfl⟩
      · refine vchain_turn (k := 2) (by kernel_rfl) fun σ w hE hold late hk hT => ?_
        have hT : Own w (wA.heap.size) 5 .u8 (σ 28) (leBytes 8 a ++ leBytes 1 b ++ leBytes 1 c ++ leBytes 1 e ++ leBytes 1 k ++ leBytes 8 l ++ leBytes 8 s) := hT
        have hBw : wA.heap.size ≤ w.heap.size := Nat.le_trans hB0 hE.size
        have h30 : σ 30 = .slice (some ⟨A0 + 1, 3, none⟩) 16 16 := hk.2.1
        obtain ⟨v', w', hrun, hO', hG⟩ := run_append_num (P := Try.prog) w wA.heap.size 26 26 5 .u8 1 Try.underlying26 infoU8 (by decide) (σ 28) (leBytes 8 a ++ leBytes 1 b ++ leBytes 1 c ++ leBytes 1 e ++ leBytes 1 k ++ leBytes 8 l ++ leBytes 8 s) hT (.slice (some ⟨A0 + 1, 3, none⟩) 16 16) (dataList d) (SlotAt.below HS1.out hE (by omega)).rd (by simp [leBytes_length]) hBw
        exact ⟨rfl, Does.ok (op_append rfl rfl h30 hrun) ⟨hG.below hBw (fun q hq => (hT.lt q hq).1), hO', trivial⟩⟩
      · refine vchain_turn (k := 3) (by kernel_rfl) fun σ w hE hold late hk hT => ?_
        have hT : Own w (wA.heap.size) 5 .u8 (σ 31) (leBytes 8 a ++ leBytes 1 b ++ leBytes 1 c ++ leBytes 1 e ++ leBytes 1 k ++ leBytes 8 l ++ leBytes 8 s ++ dataList d) := hT
        have hBw : wA.heap.size ≤ w.heap.size := Nat.le_trans hB0 hE.size
        exact ⟨rfl, Does.ok (op_assign rfl) ⟨Below.refl _ _, hT, trivial⟩⟩
    case post =>
      intro σ w3 hE3 hT hL
      have hT : Own w3 (wA.heap.size) 5 .u8 (σ 5) (leBytes 8 a ++ leBytes 1 b ++ leBytes 1 c ++ leBytes 1 e ++ leBytes 1 k ++ leBytes 8 l ++ leBytes 8 s ++ dataList d) := hT
      clear hL
      simp only [putAll, List.map_cons, List.map_nil, List.zip_cons_cons, List.zip_nil_right, List.foldl_cons, List.foldl_nil, Act.put, Option.getD_some, List.setIfInBounds_toArray, List.set_cons_zero, List.set_cons_succ]
      obtain ⟨v4, hv4⟩ : ∃ v4, σ 5 = v4 := ⟨_, rfl⟩
      rw [hv4] at hT ⊢
      have HO3 := Lib.hid hT
      have hE1 : Ext wA w3 := Below.trans hE1 hE3
      have hB0 : wA.heap.size ≤ w3.heap.size := hE1.size
      clear hT hE3 hv4
      go_wp2_with (at_builtin; go_loud (refine wpList_append_zeros (w0 := wA) rfl _ _ 26 3 5 .u8 .i64 .i64 1 rfl Try.underlying26 Try.underlying3 infoU8 (by decide) v4 (leBytes 8 a ++ leBytes 1 b ++ leBytes 1 c ++ leBytes 1 e ++ leBytes 1 k ++ leBytes 8 l ++ leBytes 8 s ++ dataList d) 4 rfl rfl HO3.out hE1 (by simp [leBytes_length]) ?_); intro v5 w5 hO5 hE5; have HO5 := Lib.hid hO5; clear hO5)
      go_ret
      exact ⟨_, rfl, ownsRow.base HO5.out hE0.size, hE0.trans hE5⟩
end Go.Proofs.Ytmbjebdkhcpclaa
