/-
  The walk of the law PickAll.
-/
import Derived.Test.YtgmndmfcacadcaaPickX
import Derived.Test.YtgmndmfcacadcaaMk
import Derived.WalkArith
set_option linter.unusedSimpArgs false
set_option linter.unusedVariables false
namespace Go.Proofs.Ytgmndmfcacadcaa
open Go.RowKit
attribute [local go_sem] slotEval

theorem infoI64 : (Try.prog.info? 3).map (fun i => (i.zero, i.size, i.bytes)) = some (some (.int .i64 0), 1, 8) := by kernel_rfl

set_option maxHeartbeats 4000000 in
set_option maxRecDepth 100000 in
theorem PickAll_walk (vm : Value) (ms : List Bool) (vl : Value) (xs : List Int) (o : Int) (w : World) (hm : RdB w vm ms) (hl : Rd w .i64 vl xs) (hw : ∀ n ∈ xs, (Lit.int .i64 n).wf = true) (hn : (Lit.int .i64 o).wf = true) :
    Calls Try.prog 5 #[vm, vl, .int .i64 o] w fun e w' => e = .returned (.bool true) ∧ Ext w w' := by
  obtain ⟨Am, cm, rfl⟩ := hm.shape
  obtain ⟨Al, cl, rfl⟩ := hl.shape
  have H := Lib.hid (Two.mk hm hl)
  have Hw := Lib.hid hw
  have Ho := Lib.hid (bounds_i64 hn)
  obtain ⟨P, hP⟩ : ∃ P, o % 15 = P := ⟨_, rfl⟩
  have hP0 : 0 ≤ P := by omega
  have hP1 : P < 15 := by omega
  have HP := Lib.hid hP
  clear hm hl hw hn hP
  by_cases hbig : 40 < ms.length ∨ 40 < xs.length
  · go_enter Try.func5, Try.ntmps5
    go_wp2_with fail
    refine (known15_calls w).mono ?_
    rintro e w1 ⟨rfl, hE1⟩
    by_cases h1 : 40 < ms.length
    · go_wp2_with fail
      go_ret
      exact ⟨rfl, hE1⟩
    · have h2 : 40 < xs.length := by omega
      go_wp2_with fail
      go_ret
      exact ⟨rfl, hE1⟩
  · have h1 : ms.length ≤ 40 := by omega
    have h2 : xs.length ≤ 40 := by omega
    clear hbig
    obtain ⟨f, hf⟩ : ∃ f : Nat → Int, f = fun j => xs.getD j 0 % 9 := ⟨_, rfl⟩
    have Hf := Lib.hid hf
    clear hf
    go_enter Try.func5, Try.ntmps5
    go_wp2_with fail
    refine (known15_calls w).mono ?_
    rintro e w1 ⟨rfl, hE1⟩
    have tok : True := trivial
    go_wp2_with (at_make; have _t := tok; clear _t; refine wpList_make_nums rfl _ _ 22 3 .i64 8 rfl Try.underlying22 infoI64 _ _ _ _ xs.length rfl rfl rfl rfl (by omega) (by omega) ?_; intro w2 hO2 hE2; clear tok)
    obtain ⟨G, hG⟩ : ∃ G, w1.heap.size = G := ⟨_, rfl⟩
    rw [hG] at hO2 ⊢
    have hwG : w.heap.size ≤ G := hG ▸ hE1.size
    have HO2 := Lib.hid hO2
    have hE := hE1.trans hE2
    clear hG hO2 hE1 hE2
    go_loopw [8] (fun iv wr => ∃ i : Nat, i ≤ xs.length ∧ iv = .int .i64 i ∧ Own wr w.heap.size 3 .i64 (.slice (some ⟨G, 0, none⟩) xs.length xs.length) (fillTo 0 f xs.length i) ∧ Ext w wr) (fun iv wr => xs.length - (intOf iv).toNat)
    case atStart => exact ⟨0, Nat.zero_le _, rfl, by rw [fillTo_zero]; exact ownsRow.base HO2.out hwG, hE⟩
    case round =>
      clear hE HO2
      obtain ⟨i, hi, rfl, hO, hE⟩ := hrel
      have HO := Lib.hid hO
      clear hO
      by_cases hlt : i < xs.length
      · obtain ⟨bl, offl, cl', he', hcl, hclm, hcelll⟩ := Rd.pos (H.out.row.ext hE) (by omega)
        injection he' with e1 e2 e3
        subst e1 e3
        unfold maxLen at hclm
        have d2 := hcelll i hlt
        obtain ⟨c1, c2⟩ := Own.at HO.out i (by rw [fillTo_length]; exact hlt)
        have hq := bounds_i64 (Hw.out (xs.getD i 0) (by rw [List.getD_eq_getElem?_getD, List.getElem?_eq_getElem hlt]; exact List.getElem_mem _))
        have hfi : f i = xs.getD i 0 % 9 := by rw [Hf.out]
        obtain ⟨q, hqq⟩ : ∃ q, xs.getD i 0 = q := ⟨_, rfl⟩
        rw [hqq] at d2 hq hfi
        have Hq := Lib.hid hq
        have Hfi := Lib.hid hfi
        clear hcelll hq hqq hfi
        go_wp2_with fail
        refine (within_calls q 9 wr (by omega) (by omega) Hq.out).mono ?_
        rintro e w' ⟨rfl, rfl⟩
        rw [← Hfi.out]
        go_wp2_with fail
        go_roundw
        case rel => exact ⟨i + 1, by omega, by go_num, by rw [← fillTo_set]; exact Own.store HO.out (fillTo_length ..).symm i _, hE.set hwG _⟩
        case measure => simp [intOf]; omega
      · obtain rfl : i = xs.length := by omega
        have hO := HO.out
        rw [fillTo_all] at hO
        have hys : ((List.range xs.length).map f).length = xs.length := by simp
        have hY : Two wr (.slice Am ms.length cm) ms (.slice (some ⟨G, 0, none⟩) xs.length xs.length) ((List.range xs.length).map f) := ⟨H.out.may.ext hE, ownsRow.reads hO⟩
        have HY := Lib.hid hY
        have Hwy : Hid (∀ n ∈ (List.range xs.length).map f, (Lit.int .i64 n).wf = true) := Lib.hid (by
          intro n hn
          obtain ⟨j, _, rfl⟩ := List.mem_map.1 hn
          rw [Hf.out]
          have h1 := Int.emod_nonneg (xs.getD j 0) (b := 9) (by decide)
          have h2 := Int.emod_lt_of_pos (xs.getD j 0) (b := 9) (by decide)
          show (Lit.int .i64 (xs.getD j 0 % 9)).wf = true
          exact WalkArith.wf_i64 ⟨by omega, by omega⟩)
        have Hys := Lib.hid hys
        clear hO hY HO hys
        go_wp2_with fail
        obtain ⟨R, hR⟩ : ∃ R, wr.heap.size = R := ⟨_, rfl⟩
        obtain ⟨w4, hw4⟩ : ∃ w4, wr.alloc (.cells #[.slice Al xs.length cl, .slice (some ⟨G, 0, none⟩) xs.length xs.length] 22) = w4 := ⟨_, rfl⟩
        have hb4 : w4.heap[R]? = some (.cells #[.slice Al xs.length cl, .slice (some ⟨G, 0, none⟩) xs.length xs.length] 22 (0, 0)) := by rw [← hw4, ← hR]; exact heap_alloc_new wr _
        have k0 := Lib.hid (cell_of_row w4 R 0 _ _ _ hb4)
        have k1 := Lib.hid (cell_of_row w4 R 1 _ _ _ hb4)
        have hE4 : Ext wr w4 := hw4 ▸ (Ext.refl wr).alloc _
        have hE5 := hE.trans hE4
        rw [hR, hw4]
        have HY4 := Lib.hid (HY.out.ext hE4)
        clear hR hw4 hb4 hE hE4 HY
        go_loopw [10] (fun iv wr => ∃ i : Nat, i ≤ 2 ∧ iv = .int .i64 i ∧ Ext w wr ∧ Ext w4 wr) (fun iv wr => 2 - (intOf iv).toNat)
        case atStart => exact ⟨0, Nat.zero_le _, rfl, hE5, Ext.refl _⟩
        case round =>
          obtain ⟨i, hi, rfl, hE1, hEr⟩ := hrel
          by_cases hlt : i < 2
          · have hex : ∃ Ar cr zs, wr.cell? ⟨R, i, none⟩ = some (.slice Ar zs.length cr) ∧ Two wr (.slice Am ms.length cm) ms (.slice Ar zs.length cr) zs ∧ (∀ n ∈ zs, (Lit.int .i64 n).wf = true) := by
              rcases (show i = 0 ∨ i = 1 by omega) with rfl | rfl
              · exact ⟨Al, cl, xs, hEr.cell k0.out, H.out.ext hE1, Hw.out⟩
              · exact ⟨some ⟨G, 0, none⟩, xs.length, (List.range xs.length).map f, by rw [Hys.out]; exact hEr.cell k1.out, by rw [Hys.out]; exact HY4.out.ext hEr, Hwy.out⟩
            obtain ⟨Ar, cr, zs, hrow, hT2, hwz⟩ := hex
            have H2 := Lib.hid hT2
            have Hwz := Lib.hid hwz
            obtain ⟨V, hV⟩ : ∃ V, leastPos ms zs = V := ⟨_, rfl⟩
            obtain ⟨C, hC⟩ : ∃ C, coldF ms zs P = C := ⟨_, rfl⟩
            have HV := Lib.hid hV
            have HC := Lib.hid hC
            clear hT2 hwz hV hC
            go_wp2_with fail
            refine wp_region_lives mixed Ext [[0], [1], [2], [3], [4], [5], [6], [7], [8], [9], [10], [11], [12], [13], [14], [15], [16], [17], [18], [19], [20], [21], [22], [23], [24], [25], [26], [27], [28], [29], [30], [31], [32], [33], [34], [35], [36], [37], [38], [39], [40], [41], [42], [43], [44], [45], [46]]
                [.val _ (· = .slice Am ms.length cm),
                 .val _ (· = .slice (some ⟨R, 0, none⟩) 2 2),
                 .val _ (· = .int .i64 i),
                 .val _ (· = .pointer (some ⟨R, i, none⟩)),
                 .val _ (· = .slice Ar zs.length cr),
                 .val _ (· = .int .i64 V),
                 .val _ (· = .slice Am ms.length cm),
                 .val _ (· = .slice (some ⟨R, 0, none⟩) 2 2),
                 .val _ (· = .int .i64 i),
                 .val _ (· = .pointer (some ⟨R, i, none⟩)),
                 .val _ (· = .slice Ar zs.length cr),
                 .val _ (· = .int .i64 V),
                 .val _ (· = .bool false),
                 .val _ (· = .bool false),
                 .val _ (· = .slice Am ms.length cm),
                 .val _ (· = .slice (some ⟨R, 0, none⟩) 2 2),
                 .val _ (· = .int .i64 i),
                 .val _ (· = .pointer (some ⟨R, i, none⟩)),
                 .val _ (· = .slice Ar zs.length cr),
                 .val _ (· = .int .i64 V),
                 .val _ (· = .slice Am ms.length cm),
                 .val _ (· = .slice (some ⟨R, 0, none⟩) 2 2),
                 .val _ (· = .int .i64 i),
                 .val _ (· = .pointer (some ⟨R, i, none⟩)),
                 .val _ (· = .slice Ar zs.length cr),
                 .val _ (· = .int .i64 V),
                 .val _ (· = .bool false),
                 .val _ (· = .bool false),
                 .val _ (· = .bool false),
                 .val _ (· = .slice Am ms.length cm),
                 .val _ (· = .slice (some ⟨R, 0, none⟩) 2 2),
                 .val _ (· = .int .i64 i),
                 .val _ (· = .pointer (some ⟨R, i, none⟩)),
                 .val _ (· = .slice Ar zs.length cr),
                 .val _ (· = .int .i64 o),
                 .val _ (· = .int .i64 P),
                 .val _ (· = .int .i64 C),
                 .val _ (· = .slice Am ms.length cm),
                 .val _ (· = .slice (some ⟨R, 0, none⟩) 2 2),
                 .val _ (· = .int .i64 i),
                 .val _ (· = .pointer (some ⟨R, i, none⟩)),
                 .val _ (· = .slice Ar zs.length cr),
                 .val _ (· = .int .i64 o),
                 .val _ (· = .int .i64 P),
                 .val _ (· = .int .i64 C),
                 .val _ (· = .bool false),
                 .val _ (· = .bool false)]
                Ext.refl (fun _ _ _ h k => h.trans k) (by kernel_rfl) (by kernel_rfl) ?steps ?post
            case steps =>
              refine ⟨?_, ?_, ?_, ?_, ?_, ?_, ?_, ?_, ?_, ?_, ?_, ?_, ?_, ?_, ?_, ?_, ?_, ?_, ?_, ?_, ?_, ?_, ?_, ?_, ?_, ?_, ?_, ?_, ?_, ?_, ?_, ?_, ?_, ?_, ?_, ?_, ?_, ?_, ?_, ?_, ?_, ?_, ?_, ?_, ?_, ?_, ?_, trivial⟩
              · refine fact_pure Ext.refl fun σ w hE hold hk => ?_
                have h0 : σ 0 = .slice Am ms.length cm := hold 0 (by kernel_rfl)
                exact ⟨rfl, _, op_move rfl, h0⟩
              · refine fact_pure Ext.refl fun σ w hE hold hk => ?_
                have h9 : σ 9 = .slice (some ⟨R, 0, none⟩) 2 2 := hold 9 (by kernel_rfl)
                exact ⟨rfl, _, op_move rfl, h9⟩
              · refine fact_pure Ext.refl fun σ w hE hold hk => ?_
                have h10 : σ 10 = .int .i64 i := hold 10 (by kernel_rfl)
                exact ⟨rfl, _, op_move rfl, h10⟩
              · refine fact_pure Ext.refl fun σ w hE hold hk => ?_
                have h46 : σ 46 = .slice (some ⟨R, 0, none⟩) 2 2 := hk.1
                have h47 : σ 47 = .int .i64 i := hk.2.1
                exact ⟨rfl, .pointer (some ⟨R, i, none⟩), by go_simp, rfl⟩
              · refine fact_pure Ext.refl fun σ w hE hold hk => ?_
                have h48 : σ 48 = .pointer (some ⟨R, i, none⟩) := hk.1
                have hcl := (Ext.of_drew hE).cell hrow
                exact ⟨rfl, .slice Ar zs.length cr, by go_simp, rfl⟩
              · intro σ w hE hold hk
                have h45 : σ 45 = .slice Am ms.length cm := hk.1
                have h49 : σ 49 = .slice Ar zs.length cr := hk.2.1
                refine ⟨rfl, Does.call (op_call2 rfl Try.func10 (by kernel_rfl) (by kernel_rfl) h45 h49) (Next_calls _ _ _ _ w (H2.out.ext (Ext.of_drew hE))) ?_⟩
                rintro e w' ⟨rfl, hE'⟩
                exact ⟨_, rfl, hE', by show Value.int .i64 _ = _; rw [HV.out]⟩
              · refine fact_pure Ext.refl fun σ w hE hold hk => ?_
                have h0 : σ 0 = .slice Am ms.length cm := hold 0 (by kernel_rfl)
                exact ⟨rfl, _, op_move rfl, h0⟩
              · refine fact_pure Ext.refl fun σ w hE hold hk => ?_
                have h9 : σ 9 = .slice (some ⟨R, 0, none⟩) 2 2 := hold 9 (by kernel_rfl)
                exact ⟨rfl, _, op_move rfl, h9⟩
              · refine fact_pure Ext.refl fun σ w hE hold hk => ?_
                have h10 : σ 10 = .int .i64 i := hold 10 (by kernel_rfl)
                exact ⟨rfl, _, op_move rfl, h10⟩
              · refine fact_pure Ext.refl fun σ w hE hold hk => ?_
                have h52 : σ 52 = .slice (some ⟨R, 0, none⟩) 2 2 := hk.1
                have h53 : σ 53 = .int .i64 i := hk.2.1
                exact ⟨rfl, .pointer (some ⟨R, i, none⟩), by go_simp, rfl⟩
              · refine fact_pure Ext.refl fun σ w hE hold hk => ?_
                have h54 : σ 54 = .pointer (some ⟨R, i, none⟩) := hk.1
                have hcl := (Ext.of_drew hE).cell hrow
                exact ⟨rfl, .slice Ar zs.length cr, by go_simp, rfl⟩
              · intro σ w hE hold hk
                have h51 : σ 51 = .slice Am ms.length cm := hk.1
                have h55 : σ 55 = .slice Ar zs.length cr := hk.2.1
                refine ⟨rfl, Does.call (op_call2 rfl Try.func12 (by kernel_rfl) (by kernel_rfl) h51 h55) (refNext_calls _ _ _ _ w (H2.out.ext (Ext.of_drew hE))) ?_⟩
                rintro e w' ⟨rfl, hE'⟩
                exact ⟨_, rfl, hE', by show Value.int .i64 _ = _; rw [HV.out]⟩
              · refine fact_pure Ext.refl fun σ w hE hold hk => ?_
                have h50 : σ 50 = .int .i64 V := hk.1
                have h56 : σ 56 = .int .i64 V := hk.2.1
                exact ⟨rfl, .bool false, by go_simp, rfl⟩
              · refine fact_pure Ext.refl fun σ w hE hold hk => ?_
                have h57 : σ 57 = .bool false := hk.1
                exact ⟨rfl, _, op_move rfl, h57⟩
              · refine fact_pure Ext.refl fun σ w hE hold hk => ?_
                have h58 : σ 58 = .bool false := hk.1
                have h0 : σ 0 = .slice Am ms.length cm := hold 0 (by kernel_rfl)
                exact ⟨(by show (asB (σ 58) == some false) = true; rw [h58]; rfl), _, op_move rfl, h0⟩
              · refine fact_pure Ext.refl fun σ w hE hold hk => ?_
                have h58 : σ 58 = .bool false := hk.1
                have h9 : σ 9 = .slice (some ⟨R, 0, none⟩) 2 2 := hold 9 (by kernel_rfl)
                exact ⟨(by show (asB (σ 58) == some false) = true; rw [h58]; rfl), _, op_move rfl, h9⟩
              · refine fact_pure Ext.refl fun σ w hE hold hk => ?_
                have h58 : σ 58 = .bool false := hk.1
                have h10 : σ 10 = .int .i64 i := hold 10 (by kernel_rfl)
                exact ⟨(by show (asB (σ 58) == some false) = true; rw [h58]; rfl), _, op_move rfl, h10⟩
              · refine fact_pure Ext.refl fun σ w hE hold hk => ?_
                have h60 : σ 60 = .slice (some ⟨R, 0, none⟩) 2 2 := hk.1
                have h61 : σ 61 = .int .i64 i := hk.2.1
                have h58 : σ 58 = .bool false := hk.2.2.1
                exact ⟨(by show (asB (σ 58) == some false) = true; rw [h58]; rfl), .pointer (some ⟨R, i, none⟩), by go_simp, rfl⟩
              · refine fact_pure Ext.refl fun σ w hE hold hk => ?_
                have h62 : σ 62 = .pointer (some ⟨R, i, none⟩) := hk.1
                have h58 : σ 58 = .bool false := hk.2.1
                have hcl := (Ext.of_drew hE).cell hrow
                exact ⟨(by show (asB (σ 58) == some false) = true; rw [h58]; rfl), .slice Ar zs.length cr, by go_simp, rfl⟩
              · intro σ w hE hold hk
                have h59 : σ 59 = .slice Am ms.length cm := hk.1
                have h63 : σ 63 = .slice Ar zs.length cr := hk.2.1
                have h58 : σ 58 = .bool false := hk.2.2.1
                refine ⟨(by show (asB (σ 58) == some false) = true; rw [h58]; rfl), Does.call (op_call2 rfl Try.func13 (by kernel_rfl) (by kernel_rfl) h59 h63) (Oldest_calls _ _ _ _ w (H2.out.ext (Ext.of_drew hE))) ?_⟩
                rintro e w' ⟨rfl, hE'⟩
                exact ⟨_, rfl, hE', by show Value.int .i64 _ = _; rw [HV.out]⟩
              · refine fact_pure Ext.refl fun σ w hE hold hk => ?_
                have h58 : σ 58 = .bool false := hk.1
                have h0 : σ 0 = .slice Am ms.length cm := hold 0 (by kernel_rfl)
                exact ⟨(by show (asB (σ 58) == some false) = true; rw [h58]; rfl), _, op_move rfl, h0⟩
              · refine fact_pure Ext.refl fun σ w hE hold hk => ?_
                have h58 : σ 58 = .bool false := hk.1
                have h9 : σ 9 = .slice (some ⟨R, 0, none⟩) 2 2 := hold 9 (by kernel_rfl)
                exact ⟨(by show (asB (σ 58) == some false) = true; rw [h58]; rfl), _, op_move rfl, h9⟩
              · refine fact_pure Ext.refl fun σ w hE hold hk => ?_
                have h58 : σ 58 = .bool false := hk.1
                have h10 : σ 10 = .int .i64 i := hold 10 (by kernel_rfl)
                exact ⟨(by show (asB (σ 58) == some false) = true; rw [h58]; rfl), _, op_move rfl, h10⟩
              · refine fact_pure Ext.refl fun σ w hE hold hk => ?_
                have h66 : σ 66 = .slice (some ⟨R, 0, none⟩) 2 2 := hk.1
                have h67 : σ 67 = .int .i64 i := hk.2.1
                have h58 : σ 58 = .bool false := hk.2.2.1
                exact ⟨(by show (asB (σ 58) == some false) = true; rw [h58]; rfl), .pointer (some ⟨R, i, none⟩), by go_simp, rfl⟩
              · refine fact_pure Ext.refl fun σ w hE hold hk => ?_
                have h68 : σ 68 = .pointer (some ⟨R, i, none⟩) := hk.1
                have h58 : σ 58 = .bool false := hk.2.1
                have hcl := (Ext.of_drew hE).cell hrow
                exact ⟨(by show (asB (σ 58) == some false) = true; rw [h58]; rfl), .slice Ar zs.length cr, by go_simp, rfl⟩
              · intro σ w hE hold hk
                have h65 : σ 65 = .slice Am ms.length cm := hk.1
                have h69 : σ 69 = .slice Ar zs.length cr := hk.2.1
                have h58 : σ 58 = .bool false := hk.2.2.2.1
                refine ⟨(by show (asB (σ 58) == some false) = true; rw [h58]; rfl), Does.call (op_call2 rfl Try.func14 (by kernel_rfl) (by kernel_rfl) h65 h69) (refOldest_calls _ _ _ _ w (H2.out.ext (Ext.of_drew hE))) ?_⟩
                rintro e w' ⟨rfl, hE'⟩
                exact ⟨_, rfl, hE', by show Value.int .i64 _ = _; rw [HV.out]⟩
              · refine fact_pure Ext.refl fun σ w hE hold hk => ?_
                have h64 : σ 64 = .int .i64 V := hk.1
                have h70 : σ 70 = .int .i64 V := hk.2.1
                have h58 : σ 58 = .bool false := hk.2.2.1
                exact ⟨(by show (asB (σ 58) == some false) = true; rw [h58]; rfl), .bool false, by go_simp, rfl⟩
              · refine fact_pure Ext.refl fun σ w hE hold hk => ?_
                have h58 : σ 58 = .bool false := hk.1
                have h71 : σ 71 = .bool false := hk.2.1
                exact ⟨rfl, .bool false, by go_simp, rfl⟩
              · refine fact_pure Ext.refl fun σ w hE hold hk => ?_
                have h72 : σ 72 = .bool false := hk.1
                exact ⟨rfl, _, op_move rfl, h72⟩
              · refine fact_pure Ext.refl fun σ w hE hold hk => ?_
                have h73 : σ 73 = .bool false := hk.1
                have h0 : σ 0 = .slice Am ms.length cm := hold 0 (by kernel_rfl)
                exact ⟨(by show (asB (σ 73) == some false) = true; rw [h73]; rfl), _, op_move rfl, h0⟩
              · refine fact_pure Ext.refl fun σ w hE hold hk => ?_
                have h73 : σ 73 = .bool false := hk.1
                have h9 : σ 9 = .slice (some ⟨R, 0, none⟩) 2 2 := hold 9 (by kernel_rfl)
                exact ⟨(by show (asB (σ 73) == some false) = true; rw [h73]; rfl), _, op_move rfl, h9⟩
              · refine fact_pure Ext.refl fun σ w hE hold hk => ?_
                have h73 : σ 73 = .bool false := hk.1
                have h10 : σ 10 = .int .i64 i := hold 10 (by kernel_rfl)
                exact ⟨(by show (asB (σ 73) == some false) = true; rw [h73]; rfl), _, op_move rfl, h10⟩
              · refine fact_pure Ext.refl fun σ w hE hold hk => ?_
                have h75 : σ 75 = .slice (some ⟨R, 0, none⟩) 2 2 := hk.1
                have h76 : σ 76 = .int .i64 i := hk.2.1
                have h73 : σ 73 = .bool false := hk.2.2.1
                exact ⟨(by show (asB (σ 73) == some false) = true; rw [h73]; rfl), .pointer (some ⟨R, i, none⟩), by go_simp, rfl⟩
              · refine fact_pure Ext.refl fun σ w hE hold hk => ?_
                have h77 : σ 77 = .pointer (some ⟨R, i, none⟩) := hk.1
                have h73 : σ 73 = .bool false := hk.2.1
                have hcl := (Ext.of_drew hE).cell hrow
                exact ⟨(by show (asB (σ 73) == some false) = true; rw [h73]; rfl), .slice Ar zs.length cr, by go_simp, rfl⟩
              · refine fact_pure Ext.refl fun σ w hE hold hk => ?_
                have h73 : σ 73 = .bool false := hk.1
                have h2 : σ 2 = .int .i64 o := hold 2 (by kernel_rfl)
                exact ⟨(by show (asB (σ 73) == some false) = true; rw [h73]; rfl), _, op_move rfl, h2⟩
              · intro σ w hE hold hk
                have h79 : σ 79 = .int .i64 o := hk.1
                have h73 : σ 73 = .bool false := hk.2.1
                refine ⟨(by show (asB (σ 73) == some false) = true; rw [h73]; rfl), Does.call (op_call2 rfl Try.func9 (by kernel_rfl) (by kernel_rfl) h79 (rfl)) (within_calls o 15 w (by omega) (by omega) Ho.out) ?_⟩
                rintro e w' ⟨rfl, rfl⟩
                exact ⟨_, rfl, Ext.refl _, by show Value.int .i64 _ = _; rw [HP.out]⟩
              · intro σ w hE hold hk
                have h74 : σ 74 = .slice Am ms.length cm := hk.1
                have h78 : σ 78 = .slice Ar zs.length cr := hk.2.1
                have h80 : σ 80 = .int .i64 P := hk.2.2.1
                have h73 : σ 73 = .bool false := hk.2.2.2.2.1
                refine ⟨(by show (asB (σ 73) == some false) = true; rw [h73]; rfl), Does.call (op_call3 rfl Try.func11 (by kernel_rfl) (by kernel_rfl) h74 h78 h80) (Cold_calls _ _ _ _ _ w (H2.out.ext (Ext.of_drew hE)) Hwz.out hP0 (by omega)) ?_⟩
                rintro e w' ⟨rfl, hE'⟩
                exact ⟨_, rfl, hE', by show Value.int .i64 _ = _; rw [HC.out]⟩
              · refine fact_pure Ext.refl fun σ w hE hold hk => ?_
                have h73 : σ 73 = .bool false := hk.1
                have h0 : σ 0 = .slice Am ms.length cm := hold 0 (by kernel_rfl)
                exact ⟨(by show (asB (σ 73) == some false) = true; rw [h73]; rfl), _, op_move rfl, h0⟩
              · refine fact_pure Ext.refl fun σ w hE hold hk => ?_
                have h73 : σ 73 = .bool false := hk.1
                have h9 : σ 9 = .slice (some ⟨R, 0, none⟩) 2 2 := hold 9 (by kernel_rfl)
                exact ⟨(by show (asB (σ 73) == some false) = true; rw [h73]; rfl), _, op_move rfl, h9⟩
              · refine fact_pure Ext.refl fun σ w hE hold hk => ?_
                have h73 : σ 73 = .bool false := hk.1
                have h10 : σ 10 = .int .i64 i := hold 10 (by kernel_rfl)
                exact ⟨(by show (asB (σ 73) == some false) = true; rw [h73]; rfl), _, op_move rfl, h10⟩
              · refine fact_pure Ext.refl fun σ w hE hold hk => ?_
                have h83 : σ 83 = .slice (some ⟨R, 0, none⟩) 2 2 := hk.1
                have h84 : σ 84 = .int .i64 i := hk.2.1
                have h73 : σ 73 = .bool false := hk.2.2.1
                exact ⟨(by show (asB (σ 73) == some false) = true; rw [h73]; rfl), .pointer (some ⟨R, i, none⟩), by go_simp, rfl⟩
              · refine fact_pure Ext.refl fun σ w hE hold hk => ?_
                have h85 : σ 85 = .pointer (some ⟨R, i, none⟩) := hk.1
                have h73 : σ 73 = .bool false := hk.2.1
                have hcl := (Ext.of_drew hE).cell hrow
                exact ⟨(by show (asB (σ 73) == some false) = true; rw [h73]; rfl), .slice Ar zs.length cr, by go_simp, rfl⟩
              · refine fact_pure Ext.refl fun σ w hE hold hk => ?_
                have h73 : σ 73 = .bool false := hk.1
                have h2 : σ 2 = .int .i64 o := hold 2 (by kernel_rfl)
                exact ⟨(by show (asB (σ 73) == some false) = true; rw [h73]; rfl), _, op_move rfl, h2⟩
              · intro σ w hE hold hk
                have h87 : σ 87 = .int .i64 o := hk.1
                have h73 : σ 73 = .bool false := hk.2.2.1
                refine ⟨(by show (asB (σ 73) == some false) = true; rw [h73]; rfl), Does.call (op_call2 rfl Try.func9 (by kernel_rfl) (by kernel_rfl) h87 (rfl)) (within_calls o 15 w (by omega) (by omega) Ho.out) ?_⟩
                rintro e w' ⟨rfl, rfl⟩
                exact ⟨_, rfl, Ext.refl _, by show Value.int .i64 _ = _; rw [HP.out]⟩
              · intro σ w hE hold hk
                have h82 : σ 82 = .slice Am ms.length cm := hk.1
                have h86 : σ 86 = .slice Ar zs.length cr := hk.2.1
                have h88 : σ 88 = .int .i64 P := hk.2.2.1
                have h73 : σ 73 = .bool false := hk.2.2.2.2.1
                refine ⟨(by show (asB (σ 73) == some false) = true; rw [h73]; rfl), Does.call (op_call3 rfl Try.func15 (by kernel_rfl) (by kernel_rfl) h82 h86 h88) (refCold_calls _ _ _ _ _ w (H2.out.ext (Ext.of_drew hE)) Hwz.out hP0 (by omega)) ?_⟩
                rintro e w' ⟨rfl, hE'⟩
                exact ⟨_, rfl, hE', by show Value.int .i64 _ = _; rw [HC.out]⟩
              · refine fact_pure Ext.refl fun σ w hE hold hk => ?_
                have h81 : σ 81 = .int .i64 C := hk.1
                have h89 : σ 89 = .int .i64 C := hk.2.1
                have h73 : σ 73 = .bool false := hk.2.2.1
                exact ⟨(by show (asB (σ 73) == some false) = true; rw [h73]; rfl), .bool false, by go_simp, rfl⟩
              · refine fact_pure Ext.refl fun σ w hE hold hk => ?_
                have h73 : σ 73 = .bool false := hk.1
                have h90 : σ 90 = .bool false := hk.2.1
                exact ⟨rfl, .bool false, by go_simp, rfl⟩
            case post =>
              intro σ w3 hE3 hL
              have h91 : σ 91 = .bool false := hL.2.2.2.2.2.2.2.2.2.2.2.2.2.2.2.2.2.2.2.2.2.2.2.2.2.2.2.2.2.2.2.2.2.2.2.2.2.2.2.2.2.2.2.2.2.2.1
              clear hL
              simp only [putAll, List.map_cons, List.map_nil, List.zip_cons_cons, List.zip_nil_right, List.foldl_cons, List.foldl_nil, Act.put, Option.getD_some, List.setIfInBounds_toArray, List.set_cons_zero, List.set_cons_succ]
              rw [h91]; clear h91
              have hE9 := hE1.trans (Ext.of_drew hE3)
              have hEr9 := hEr.trans (Ext.of_drew hE3)
              go_wp2_with fail
              go_roundw
              case rel => exact ⟨i + 1, by omega, by go_num, hE9, hEr9⟩
              case measure => simp [intOf]; omega
          · obtain rfl : i = 2 := by omega
            go_wp2_with fail
            go_ret
            exact ⟨rfl, hE1⟩
end Go.Proofs.Ytgmndmfcacadcaa
