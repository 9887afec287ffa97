/-
  The walk of the law CodeEnds.
-/
import Derived.Test.YtjonbihhalnleaaCodeLess
import Derived.Test.YtjonbihhalnleaaRf
set_option linter.unusedSimpArgs false
set_option linter.unusedVariables false
namespace Go.Proofs.Ytjonbihhalnleaa
open Go.RowKit
attribute [local go_sem] slotEval

set_option maxHeartbeats 2000000 in
set_option maxRecDepth 100000 in
theorem CodeEnds_walk (n k : Int) (w : World) (hn : (Lit.int .i64 n).wf = true) (hk : (Lit.int .i64 k).wf = true) :
    Calls Try.prog 6 #[.int .i64 n, .int .i64 k] w fun e w' => e = .returned (.bool true) ∧ Ext w w' := by
  have Hn := Lib.hid (bounds_i64 hn)
  have Hk := Lib.hid (bounds_i64 hk)
  clear hn hk
  obtain ⟨p, hp⟩ : ∃ p : Nat, k % 63 = p := ⟨(k % 63).toNat, by omega⟩
  have hp1 : p < 63 := by omega
  have Hp := Lib.hid hp
  clear hp
  go_enter Try.func6, Try.ntmps6
  go_wp2_with fail
  refine (known1_calls w).mono ?_
  rintro e w1 ⟨rfl, hE1⟩
  go_wp2_with fail
  refine (within_calls k 63 w1 (by decide) (by decide) Hk.out).mono ?_
  rintro e w' ⟨rfl, rfl⟩
  rw [Hp.out]
  go_wp2_with fail
  obtain ⟨ls, hls⟩ : ∃ ls : List Int, ls = [0, 1, -1, 255, 256, 9223372036854775807, -9223372036854775808, wrap64 (2 ^ p), n] := ⟨_, rfl⟩
  obtain ⟨w2, hw2⟩ : ∃ w2, w1.alloc (.cells #[.int .i64 0, .int .i64 1, .int .i64 (-1), .int .i64 255, .int .i64 256, .int .i64 9223372036854775807, .int .i64 (-9223372036854775808), .int .i64 (wrap64 (2 ^ p)), .int .i64 n] 3) = w2 := ⟨_, rfl⟩
  have hE2 : Ext w1 w2 := hw2 ▸ (Ext.refl w1).alloc _
  obtain ⟨G, hG⟩ : ∃ G, w1.heap.size = G := ⟨_, rfl⟩
  have hlen : ls.length = 9 := by rw [hls]; rfl
  have hrd : Rd w2 .i64 (.slice (some ⟨G, 0, none⟩) 9 9) ls := by
    have h := rd_new (w := w1) (nums .i64 ls).toArray 3 9 (by decide)
    rw [hls] at h ⊢
    rw [← hw2, ← hG]
    exact h
  have hwl : ∀ x ∈ ls, -9223372036854775808 ≤ x ∧ x ≤ 9223372036854775807 := by
    rw [hls]
    intro x hx
    simp only [List.mem_cons, List.not_mem_nil, or_false] at hx
    have := Hn.out
    rcases hx with rfl | rfl | rfl | rfl | rfl | rfl | rfl | rfl | rfl <;> first | omega | (unfold wrap64; omega)
  have Hrd := Lib.hid hrd
  have Hwl := Lib.hid hwl
  have Hlen := Lib.hid hlen
  have hE := hE1.trans hE2
  have hwG : w.heap.size ≤ G := hG ▸ hE1.size
  rw [hw2, hG]
  clear hls hw2 hG hrd hwl hlen Hn Hk Hp
  go_loopw [6] (fun iv wr => ∃ i : Nat, i ≤ 9 ∧ iv = .int .i64 i ∧ Rd wr .i64 (.slice (some ⟨G, 0, none⟩) 9 9) ls ∧ G < wr.heap.size ∧ Ext w wr) (fun iv wr => 9 - (intOf iv).toNat)
  case atStart => exact ⟨0, Nat.zero_le _, rfl, Hrd.out, World.block_lt_of_cell? w2 _ (Rd.at Hrd.out 0 (by rw [Hlen.out]; decide)), hE⟩
  case round =>
    obtain ⟨i, hi, rfl, hrd, hGl, hE⟩ := hrel
    by_cases hlt : i < 9
    · have hcell := Rd.at hrd i (by rw [Hlen.out]; exact hlt)
      rw [Nat.zero_add] at hcell
      have hrd := Lib.hid hrd
      have hq0 := Hwl.out (ls.getD i 0) (by rw [List.getD_eq_getElem?_getD, List.getElem?_eq_getElem (by rw [Hlen.out]; exact hlt)]; exact List.getElem_mem _)
      obtain ⟨q, hq⟩ : ∃ q, ls.getD i 0 = q := ⟨_, rfl⟩
      rw [hq] at hcell hq0
      have Hq0 := Lib.hid hq0
      have Hn0 := Lib.hid (ownsRow.reads (own_nil wr 0 5 1))
      clear hq hq0
      go_wp2_with fail
      have hE0 := hE
      refine wp_region_lives mixed Ext [[0], [1], [2], [3], [4], [5], [6], [7], [8], [9], [10, 5], [11, 5], [12, 5], [13, 11]]
          [.val _ (· = .slice (some ⟨G, 0, none⟩) 9 9),
           .val _ (· = .int .i64 i),
           .val _ (· = .pointer (some ⟨G, i, none⟩)),
           .val _ (· = .int .i64 q),
           .one _ (fun v w => Rd w .u8 v (leBytes 8 q)) (fun _ _ _ hE h => RdC.ext h hE),
           .one _ (fun v w => ∃ g, v = .pointer (some ⟨g, 0, none⟩) ∧ RdS (fun _ => True) w g (leBytes 8 q) 0 ∧ G < g ∧ g < w.heap.size) (fun _ _ _ hE ⟨g, h1, h2, h3, h4⟩ => ⟨g, h1, h2.ext hE, h3, Nat.lt_of_lt_of_le h4 hE.size⟩),
           .val _ (· = .slice (some ⟨G, 0, none⟩) 9 9),
           .val _ (· = .int .i64 i),
           .val _ (· = .pointer (some ⟨G, i, none⟩)),
           .val _ (· = .int .i64 q),
           .two _ (fun v u w => Rd w .u8 v (leBytes 8 q) ∧ ∃ g, u = .pointer (some ⟨g, 0, none⟩) ∧ g < w.heap.size) (fun _ _ _ _ hE ⟨h, g, h1, h2⟩ => ⟨RdC.ext h hE, g, h1, Nat.lt_of_lt_of_le h2 hE.size⟩),
           .two _ (fun v u w => ∃ g g', u = .pointer (some ⟨g, 0, none⟩) ∧ v = .pointer (some ⟨g', 0, none⟩) ∧ g < g' ∧ RdS (fun b => b ≠ g) w g' (leBytes 8 q) 0) (fun _ _ _ _ hE ⟨g, g', h1, h2, h3, h4⟩ => ⟨g, g', h1, h2, h3, h4.ext hE⟩),
           .same _,
           .same _]
          Ext.refl (fun _ _ _ h k => h.trans k) (by kernel_rfl) (by kernel_rfl) ?steps ?post
      case steps =>
        refine ⟨?_, ?_, ?_, ?_, ?_, ?_, ?_, ?_, ?_, ?_, ?_, ?_, ?_, ?_, trivial⟩
        · refine fact_pure Ext.refl fun σ w hE hold hk => ?_
          have h5 : σ 5 = .slice (some ⟨G, 0, none⟩) 9 9 := hold 5 (by kernel_rfl)
          exact ⟨rfl, _, op_move rfl, h5⟩
        · refine fact_pure Ext.refl fun σ w hE hold hk => ?_
          have h6 : σ 6 = .int .i64 i := hold 6 (by kernel_rfl)
          exact ⟨rfl, _, op_move rfl, h6⟩
        · refine fact_pure Ext.refl fun σ w hE hold hk => ?_
          have h24 : σ 24 = .slice (some ⟨G, 0, none⟩) 9 9 := hk.1
          have h25 : σ 25 = .int .i64 i := hk.2.1
          exact ⟨rfl, .pointer (some ⟨G, i, none⟩), by go_simp, rfl⟩
        · refine fact_pure Ext.refl fun σ w hE hold hk => ?_
          have h26 : σ 26 = .pointer (some ⟨G, i, none⟩) := hk.1
          have hcl := (Ext.of_drew hE).cell hcell
          exact ⟨rfl, .int .i64 q, by go_simp, rfl⟩
        · intro σ w hE hold hk
          have h27 : σ 27 = .int .i64 q := hk.1
          refine ⟨rfl, Does.call (op_call2 rfl Try.func11 (by kernel_rfl) (by kernel_rfl) (rfl) h27) (Int_calls _ [] q w (by decide) (ownsRow.reads (own_nil w 0 5 1))) ?_⟩
          rintro e w' ⟨v', rfl, hO, hE'⟩
          exact ⟨v', rfl, hE', ownsRow.reads hO⟩
        · intro σ w hE hold hk
          have h28 : (fun v w => Rd w .u8 v (leBytes 8 q)) (σ 28) w := hk.1
          refine ⟨rfl, Does.call (op_call1 rfl Try.func16 (by kernel_rfl) (by kernel_rfl) (rfl)) (New_calls _ (leBytes 8 q) w (by rw [leBytes_length]; decide) h28) ?_⟩
          rintro e w' ⟨g, rfl, hR, hg, hgl, hE'⟩
          exact ⟨_, rfl, hE', g, rfl, hR.weaken (fun _ _ => trivial), Nat.lt_of_lt_of_le hGl (Nat.le_trans (Ext.of_drew hE).size hg), hgl⟩
        · refine fact_pure Ext.refl fun σ w hE hold hk => ?_
          have h5 : σ 5 = .slice (some ⟨G, 0, none⟩) 9 9 := hold 5 (by kernel_rfl)
          exact ⟨rfl, _, op_move rfl, h5⟩
        · refine fact_pure Ext.refl fun σ w hE hold hk => ?_
          have h6 : σ 6 = .int .i64 i := hold 6 (by kernel_rfl)
          exact ⟨rfl, _, op_move rfl, h6⟩
        · refine fact_pure Ext.refl fun σ w hE hold hk => ?_
          have h30 : σ 30 = .slice (some ⟨G, 0, none⟩) 9 9 := hk.1
          have h31 : σ 31 = .int .i64 i := hk.2.1
          exact ⟨rfl, .pointer (some ⟨G, i, none⟩), by go_simp, rfl⟩
        · refine fact_pure Ext.refl fun σ w hE hold hk => ?_
          have h32 : σ 32 = .pointer (some ⟨G, i, none⟩) := hk.1
          have hcl := (Ext.of_drew hE).cell hcell
          exact ⟨rfl, .int .i64 q, by go_simp, rfl⟩
        · intro σ w hE hold hk
          have h33 : σ 33 = .int .i64 q := hk.1
          have h29 : (fun v w => ∃ g, v = .pointer (some ⟨g, 0, none⟩) ∧ RdS (fun _ => True) w g (leBytes 8 q) 0 ∧ G < g ∧ g < w.heap.size) (σ 29) w := hk.2.1
          refine ⟨rfl, Does.call (op_call2 rfl Try.func11 (by kernel_rfl) (by kernel_rfl) (rfl) h33) (Int_calls _ [] q w (by decide) (ownsRow.reads (own_nil w 0 5 1))) ?_⟩
          rintro e w' ⟨v', rfl, hO, hE'⟩
          obtain ⟨g, h1, _, _, h4⟩ := h29
          exact ⟨v', rfl, hE', ownsRow.reads hO, g, h1, Nat.lt_of_lt_of_le h4 hE'.size⟩
        · intro σ w hE hold hk
          have h34 : (fun v u w => Rd w .u8 v (leBytes 8 q) ∧ ∃ g, u = .pointer (some ⟨g, 0, none⟩) ∧ g < w.heap.size) (σ 34) (σ 29) w := hk.1
          refine ⟨rfl, Does.call (op_call1 rfl Try.func16 (by kernel_rfl) (by kernel_rfl) (rfl)) (New_calls _ (leBytes 8 q) w (by rw [leBytes_length]; decide) h34.1) ?_⟩
          rintro e w' ⟨g', rfl, hR, hg, hgl, hE'⟩
          obtain ⟨_, g, h1, h2⟩ := h34
          exact ⟨_, rfl, hE', g, g', h1, rfl, Nat.lt_of_lt_of_le h2 hg, hR.weaken (fun b hb => Nat.ne_of_gt (Nat.lt_of_lt_of_le h2 hb))⟩
        · refine fact_pure Ext.refl fun σ w hE hold hk => ?_
          have h29 : (fun v w => ∃ g, v = .pointer (some ⟨g, 0, none⟩) ∧ RdS (fun _ => True) w g (leBytes 8 q) 0 ∧ G < g ∧ g < w.heap.size) (σ 29) w := hk.1
          exact ⟨rfl, _, op_assign rfl, rfl⟩
        · refine fact_pure Ext.refl fun σ w hE hold hk => ?_
          have h35 : (fun v u w => ∃ g g', u = .pointer (some ⟨g, 0, none⟩) ∧ v = .pointer (some ⟨g', 0, none⟩) ∧ g < g' ∧ RdS (fun b => b ≠ g) w g' (leBytes 8 q) 0) (σ 35) (σ 29) w := hk.1
          exact ⟨rfl, _, op_assign rfl, rfl⟩
      case post =>
        intro σ w3 hE3 hL
        have h29 : (fun v w => ∃ g, v = .pointer (some ⟨g, 0, none⟩) ∧ RdS (fun _ => True) w g (leBytes 8 q) 0 ∧ G < g ∧ g < w.heap.size) (σ 29) w3 := hL.2.2.2.2.2.1
        have h35 : (fun v u w => ∃ g g', u = .pointer (some ⟨g, 0, none⟩) ∧ v = .pointer (some ⟨g', 0, none⟩) ∧ g < g' ∧ RdS (fun b => b ≠ g) w g' (leBytes 8 q) 0) (σ 35) (σ 29) w3 := hL.2.2.2.2.2.2.2.2.2.2.2.1
        have h7 : σ 7 = σ 29 := hL.2.2.2.2.2.2.2.2.2.2.2.2.1
        have h8 : σ 8 = σ 35 := hL.2.2.2.2.2.2.2.2.2.2.2.2.2.1
        clear hL
        simp only [putAll, List.map_cons, List.map_nil, List.zip_cons_cons, List.zip_nil_right, List.foldl_cons, List.foldl_nil, Act.put, Option.getD_some, List.setIfInBounds_toArray, List.set_cons_zero, List.set_cons_succ]
        rw [h7]; clear h7
        rw [h8]; clear h8
        obtain ⟨g, g', hg1, hg2, hgg, hX⟩ := h35
        obtain ⟨g0, hg3, hR, hGg, _⟩ := h29
        rw [hg1] at hg3
        cases hg3
        rw [hg1, hg2]
        have HX := Lib.hid hX
        have HR := Lib.hid hR
        have hE := hE0.trans (Ext.of_drew hE3)
        have hcell3 := (Ext.of_drew hE3).cell hcell
        have hrd3 := Lib.hid (hrd.out.ext (Ext.of_drew hE3))
        have hGw : G + 1 ≤ w3.heap.size := Nat.lt_of_lt_of_le hGl (Ext.of_drew hE3).size
        clear hX hR hE3 hcell hg1 hg2 hrd
        go_wp2_with fail
        refine wp_region_chain mixed [1, 7, 9]
            [(· = .pointer (some ⟨g, 0, none⟩)),
             (· = .int .i64 q),
             (· = .slice (some ⟨G, 0, none⟩) 9 9),
             (· = .int .i64 i),
             (· = .pointer (some ⟨G, i, none⟩)),
             (· = .int .i64 q),
             (· = .bool false),
             (· = .bool false),
             (· = .pointer (some ⟨g, 0, none⟩)),
             (· = .int .i64 0),
             (· = .bool false),
             (· = .bool false)]
            (G + 1) (fun k w' => RdS (fun b => b ≠ g) w' g' (leBytes 8 q) 0 ∧ match k with | 0 => RdS (fun _ => True) w' g (leBytes 8 q) 0 | _ => RdS (fun _ => True) w' g [] 0)
            (by kernel_rfl) (by kernel_rfl) (by decide) ?start ?steps ?post
        case start => exact ⟨HX.out, HR.out⟩
        case steps =>
          refine ⟨?_, ?_, ?_, ?_, ?_, ?_, ?_, ?_, ?_, ?_, ?_, ?_, trivial⟩
          · refine chain_pure (by kernel_rfl) fun σ w hE hold hk => ?_
            have h7 : σ 7 = .pointer (some ⟨g, 0, none⟩) := hold 7 (by kernel_rfl)
            exact ⟨rfl, _, op_move rfl, h7⟩
          · refine chain_turn (k := 0) (by kernel_rfl) fun σ w hE hold hk hT => ?_
            have h36 : σ 36 = .pointer (some ⟨g, 0, none⟩) := hk.1
            refine ⟨rfl, Does.call (op_call1 rfl Try.func18 (by kernel_rfl) (by kernel_rfl) h36) (RInt_calls g _ 0 w hT.2 (leBytes_range 8 q)) ?_⟩
            rintro e w' ⟨rfl, hR, hG⟩
            have hF : readF 8 (leBytes 8 q) 0 = (leVal (leBytes 8 q), [], 0) := by rw [readF, if_neg (by decide), if_neg (by rw [leBytes_length]; decide), List.take_of_length_le (by rw [leBytes_length]; exact Nat.le_refl _), List.drop_eq_nil_of_le (by rw [leBytes_length]; exact Nat.le_refl _)]
            rw [hF] at hR ⊢
            exact ⟨_, rfl, below_row hG (Nat.le_trans hGw hE.size) hGg, ⟨hT.1.apart hG (Nat.ne_of_gt hgg) (fun b hb => hb), hR⟩, by show Value.int .i64 (IntKind.i64.wrap (leVal (leBytes 8 q))) = .int .i64 q; rw [leVal_int q Hq0.out]⟩
          · refine chain_pure (by kernel_rfl) fun σ w hE hold hk => ?_
            have h5 : σ 5 = .slice (some ⟨G, 0, none⟩) 9 9 := hold 5 (by kernel_rfl)
            exact ⟨rfl, _, op_move rfl, h5⟩
          · refine chain_pure (by kernel_rfl) fun σ w hE hold hk => ?_
            have h6 : σ 6 = .int .i64 i := hold 6 (by kernel_rfl)
            exact ⟨rfl, _, op_move rfl, h6⟩
          · refine chain_pure (by kernel_rfl) fun σ w hE hold hk => ?_
            have h38 : σ 38 = .slice (some ⟨G, 0, none⟩) 9 9 := hk.1
            have h39 : σ 39 = .int .i64 i := hk.2.1
            exact ⟨rfl, .pointer (some ⟨G, i, none⟩), by go_simp, rfl⟩
          · refine chain_pure (by kernel_rfl) fun σ w hE hold hk => ?_
            have h40 : σ 40 = .pointer (some ⟨G, i, none⟩) := hk.1
            have hcl := (Below.cell hE (p := ⟨G, i, none⟩) (Nat.lt_succ_self G)).trans hcell3
            exact ⟨rfl, .int .i64 q, by go_simp, rfl⟩
          · refine chain_pure (by kernel_rfl) fun σ w hE hold hk => ?_
            have h37 : σ 37 = .int .i64 q := hk.1
            have h41 : σ 41 = .int .i64 q := hk.2.1
            exact ⟨rfl, .bool false, by go_simp, rfl⟩
          · refine chain_turn (k := 1) (by kernel_rfl) fun σ w hE hold hk hT => ?_
            have h42 : σ 42 = .bool false := hk.1
            exact ⟨rfl, Does.ok (op_move rfl) ⟨Below.refl _ _, hT, h42⟩⟩
          · refine chain_pure (by kernel_rfl) fun σ w hE hold hk => ?_
            have h43 : σ 43 = .bool false := hk.1
            have h7 : σ 7 = .pointer (some ⟨g, 0, none⟩) := hold 7 (by kernel_rfl)
            exact ⟨(by show (asB (σ 43) == some false) = true; rw [h43]; rfl), _, op_move rfl, h7⟩
          · refine chain_turn (k := 2) (by kernel_rfl) fun σ w hE hold hk hT => ?_
            have h44 : σ 44 = .pointer (some ⟨g, 0, none⟩) := hk.1
            have h43 : σ 43 = .bool false := hk.2.1
            refine ⟨(by show (asB (σ 43) == some false) = true; rw [h43]; rfl), Does.call (op_call1 rfl Try.func19 (by kernel_rfl) (by kernel_rfl) h44) (REnd_calls g [] 0 w hT.2) ?_⟩
            rintro e w' ⟨rfl, rfl⟩
            exact ⟨_, rfl, Below.refl _ _, hT, rfl⟩
          · refine chain_pure (by kernel_rfl) fun σ w hE hold hk => ?_
            have h45 : σ 45 = .int .i64 0 := hk.1
            have h43 : σ 43 = .bool false := hk.2.1
            exact ⟨(by show (asB (σ 43) == some false) = true; rw [h43]; rfl), .bool false, by go_simp, rfl⟩
          · refine chain_pure (by kernel_rfl) fun σ w hE hold hk => ?_
            have h43 : σ 43 = .bool false := hk.1
            have h46 : σ 46 = .bool false := hk.2.1
            exact ⟨rfl, .bool false, by go_simp, rfl⟩
        case post =>
          intro σ w4 hE4 hT hL
          have h47 : σ 47 = .bool false := hL.2.2.2.2.2.2.2.2.2.2.2.1
          clear hL
          simp only [putAll, List.map_cons, List.map_nil, List.zip_cons_cons, List.zip_nil_right, List.foldl_cons, List.foldl_nil, Act.put, Option.getD_some, List.setIfInBounds_toArray, List.set_cons_zero, List.set_cons_succ]
          rw [h47]; clear h47
          have hX4 := Lib.hid hT.1
          have hcell4 := (Below.cell hE4 (p := ⟨G, i, none⟩) (Nat.lt_succ_self G)).trans hcell3
          have hrd4 : Rd w4 .i64 (.slice (some ⟨G, 0, none⟩) 9 9) ls := RdC.same hrd3.out (fun ad e => by cases e; exact hE4.block _ (Nat.lt_succ_self G))
          have hrd4 := Lib.hid hrd4
          have hE := Below.trans hE (hE4.mono (Nat.le_succ_of_le hwG))
          have hGl4 : G < w4.heap.size := Nat.lt_of_lt_of_le hGw hE4.size
          clear hT hcell3 hrd3 HX HR hE4
          have HE4 := Lib.hid hE
          go_wp2_with fail
          obtain ⟨wo, hwo⟩ : ∃ wo : World, wo = w4 := ⟨_, rfl⟩
          go_loopw [9] (fun jv wr => ∃ j : Nat, j ≤ 8 ∧ jv = .int .i64 j ∧ RdS (fun b => b ≠ g) wr g' ((leBytes 8 q).drop j) 0 ∧ Below (G + 1) w4 wr) (fun jv wr => 8 - (intOf jv).toNat)
          case atStart => exact ⟨0, Nat.zero_le _, rfl, hX4.out, Below.refl _ _⟩
          case round =>
            obtain ⟨j, hj, rfl, hX, hB⟩ := hrel
            have HX := Lib.hid hX
            have hcell5 := (Below.cell hB (p := ⟨G, i, none⟩) (Nat.lt_succ_self G)).trans hcell4
            have hGw5 : G + 1 ≤ wr.heap.size := Nat.lt_of_lt_of_le hGl4 hB.size
            have hB0 := hB
            clear hX
            by_cases hjl : j < 8
            · have hdrop : (leBytes 8 q).drop j = byteOf q j :: (leBytes 8 q).drop (j + 1) := by
                rw [List.drop_eq_getElem_cons (by rw [leBytes_length]; exact hjl)]
                simp [leBytes]
              have hrange : ∀ x ∈ (leBytes 8 q).drop j, 0 ≤ x ∧ x < 256 := fun x hx => leBytes_range 8 q x (List.mem_of_mem_drop hx)
              have Hdrop := Lib.hid hdrop
              have Hrange := Lib.hid hrange
              clear hdrop hrange hcell4
              go_wp2_with fail
              refine wp_region_chain mixed [1]
                  [(· = .pointer (some ⟨g', 0, none⟩)),
                   (· = .int .i64 (byteOf q j)),
                   (· = .slice (some ⟨G, 0, none⟩) 9 9),
                   (· = .int .i64 i),
                   (· = .pointer (some ⟨G, i, none⟩)),
                   (· = .int .i64 q),
                   (· = .int .u64 (IntKind.u64.wrap q)),
                   (· = .int .i64 j),
                   (· = .int .i64 (8 * j)),
                   (· = .int .u64 (8 * j)),
                   (· = .int .u64 (IntKind.u64.wrap q / 2 ^ (8 * j))),
                   (· = .int .u64 (byteOf q j)),
                   (· = .int .i64 (byteOf q j)),
                   (· = .bool false)]
                  (G + 1) (fun k w' => match k with | 0 => RdS (fun b => b ≠ g) w' g' ((leBytes 8 q).drop j) 0 | _ => RdS (fun b => b ≠ g) w' g' ((leBytes 8 q).drop (j + 1)) 0)
                  (by kernel_rfl) (by kernel_rfl) (by decide) ?start ?steps ?post
              case start => exact HX.out
              case steps =>
                refine ⟨?_, ?_, ?_, ?_, ?_, ?_, ?_, ?_, ?_, ?_, ?_, ?_, ?_, ?_, trivial⟩
                · refine chain_pure (by kernel_rfl) fun σ w hE hold hk => ?_
                  have h8 : σ 8 = .pointer (some ⟨g', 0, none⟩) := hold 8 (by kernel_rfl)
                  exact ⟨rfl, _, op_move rfl, h8⟩
                · refine chain_turn (k := 0) (by kernel_rfl) fun σ w hE hold hk hT => ?_
                  have h52 : σ 52 = .pointer (some ⟨g', 0, none⟩) := hk.1
                  refine ⟨rfl, Does.call (op_call1 rfl Try.func17 (by kernel_rfl) (by kernel_rfl) h52) (RByte_calls g' _ 0 w hT Hrange.out) ?_⟩
                  rintro e w' ⟨rfl, hR, hG⟩
                  have hF : readF 1 ((leBytes 8 q).drop j) 0 = (byteOf q j, (leBytes 8 q).drop (j + 1), 0) := by
                    rw [Hdrop.out, readF, if_neg (by decide), if_neg (by simp)]; simp [leVal]
                  rw [hF] at hR ⊢
                  have hb := byteOf_range q j
                  exact ⟨_, rfl, below_row hG (Nat.le_trans hGw5 hE.size) (Nat.lt_trans hGg hgg), hR, by show Value.int .i64 (IntKind.i64.wrap (byteOf q j)) = .int .i64 (byteOf q j); rw [IntKind.wrap_i64]; congr 1; omega⟩
                · refine chain_pure (by kernel_rfl) fun σ w hE hold hk => ?_
                  have h5 : σ 5 = .slice (some ⟨G, 0, none⟩) 9 9 := hold 5 (by kernel_rfl)
                  exact ⟨rfl, _, op_move rfl, h5⟩
                · refine chain_pure (by kernel_rfl) fun σ w hE hold hk => ?_
                  have h6 : σ 6 = .int .i64 i := hold 6 (by kernel_rfl)
                  exact ⟨rfl, _, op_move rfl, h6⟩
                · refine chain_pure (by kernel_rfl) fun σ w hE hold hk => ?_
                  have h54 : σ 54 = .slice (some ⟨G, 0, none⟩) 9 9 := hk.1
                  have h55 : σ 55 = .int .i64 i := hk.2.1
                  exact ⟨rfl, .pointer (some ⟨G, i, none⟩), by go_simp, rfl⟩
                · refine chain_pure (by kernel_rfl) fun σ w hE hold hk => ?_
                  have h56 : σ 56 = .pointer (some ⟨G, i, none⟩) := hk.1
                  have hcl := (Below.cell hE (p := ⟨G, i, none⟩) (Nat.lt_succ_self G)).trans hcell5
                  exact ⟨rfl, .int .i64 q, by go_simp, rfl⟩
                · refine chain_pure (by kernel_rfl) fun σ w hE hold hk => ?_
                  have h57 : σ 57 = .int .i64 q := hk.1
                  exact ⟨rfl, .int .u64 (IntKind.u64.wrap q), by go_simp, rfl⟩
                · refine chain_pure (by kernel_rfl) fun σ w hE hold hk => ?_
                  have h9 : σ 9 = .int .i64 j := hold 9 (by kernel_rfl)
                  exact ⟨rfl, _, op_move rfl, h9⟩
                · refine chain_pure (by kernel_rfl) fun σ w hE hold hk => ?_
                  have h59 : σ 59 = .int .i64 j := hk.1
                  have hx : IntKind.i64.wrap (8 * (j : Int)) = 8 * j := IntWalk.i64_in _ (by omega)
                  exact ⟨rfl, .int .i64 (8 * j), by go_simp, rfl⟩
                · refine chain_pure (by kernel_rfl) fun σ w hE hold hk => ?_
                  have h60 : σ 60 = .int .i64 (8 * j) := hk.1
                  have hx : IntKind.u64.wrap (8 * (j : Int)) = 8 * j := by rw [IntKind.wrap_u64]; omega
                  exact ⟨rfl, .int .u64 (8 * j), by go_simp, rfl⟩
                · refine chain_pure (by kernel_rfl) fun σ w hE hold hk => ?_
                  have h58 : σ 58 = .int .u64 (IntKind.u64.wrap q) := hk.1
                  have h61 : σ 61 = .int .u64 (8 * j) := hk.2.1
                  have hx : (8 * (j : Int)).toNat = 8 * j := by omega
                  exact ⟨rfl, .int .u64 (IntKind.u64.wrap q / 2 ^ (8 * j)), by go_simp, rfl⟩
                · refine chain_pure (by kernel_rfl) fun σ w hE hold hk => ?_
                  have h62 : σ 62 = .int .u64 (IntKind.u64.wrap q / 2 ^ (8 * j)) := hk.1
                  have hx := byte_and q j
                  exact ⟨rfl, .int .u64 (byteOf q j), by go_simp, rfl⟩
                · refine chain_pure (by kernel_rfl) fun σ w hE hold hk => ?_
                  have h63 : σ 63 = .int .u64 (byteOf q j) := hk.1
                  have hx : IntKind.i64.wrap (byteOf q j) = byteOf q j := by have := byteOf_range q j; rw [IntKind.wrap_i64]; omega
                  exact ⟨rfl, .int .i64 (byteOf q j), by go_simp, rfl⟩
                · refine chain_pure (by kernel_rfl) fun σ w hE hold hk => ?_
                  have h53 : σ 53 = .int .i64 (byteOf q j) := hk.1
                  have h64 : σ 64 = .int .i64 (byteOf q j) := hk.2.1
                  exact ⟨rfl, .bool false, by go_simp, rfl⟩
              case post =>
                intro σ w5 hE5 hT hL
                have h65 : σ 65 = .bool false := hL.2.2.2.2.2.2.2.2.2.2.2.2.2.1
                clear hL
                simp only [putAll, List.map_cons, List.map_nil, List.zip_cons_cons, List.zip_nil_right, List.foldl_cons, List.foldl_nil, Act.put, Option.getD_some, List.setIfInBounds_toArray, List.set_cons_zero, List.set_cons_succ]
                rw [h65]; clear h65
                go_wp2_with fail
                go_roundw
                case rel => exact ⟨j + 1, by omega, by go_num, hT, Below.trans hB0 hE5⟩
                case measure => simp [intOf]; omega
            · go_wp2_with fail
              go_roundw
              case rel => exact ⟨i + 1, by omega, by go_num, RdC.same hrd4.out (fun ad e => by cases e; exact hB.block _ (Nat.lt_succ_self G)), hGw5, Below.trans HE4.out (hB.mono (Nat.le_succ_of_le hwG))⟩
              case measure => simp [intOf]; omega
    · go_wp2_with fail
      go_ret
      exact ⟨rfl, hE⟩
end Go.Proofs.Ytjonbihhalnleaa
