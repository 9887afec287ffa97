/-
  The walk of the law PickLeast.
-/
import Derived.Test.YtgmndmfcacadcaaPickX
set_option linter.unusedSimpArgs false
set_option linter.unusedVariables false
namespace Go.Proofs.Ytgmndmfcacadcaa
open Go.RowKit
attribute [local go_sem] slotEval

/-- May any of the first i be taken? -/
def anyTo (ms : List Bool) (i : Nat) : Bool := (List.range i).any fun j => ms.getD j false
theorem anyTo_succ (ms : List Bool) (i : Nat) : anyTo ms (i + 1) = (anyTo ms i || ms.getD i false) := by simp [anyTo, List.range_succ, List.any_append]
theorem anyTo_none (ms : List Bool) (i : Nat) (h : ∀ j, j < i → ms.getD j false = false) : anyTo ms i = false := by
  rw [anyTo, List.any_eq_false]
  intro j hj
  rw [h j (List.mem_range.1 hj)]
  decide
theorem anyTo_some (ms : List Bool) (i k : Nat) (hk : k < i) (h : ms.getD k false = true) : anyTo ms i = true := by
  rw [anyTo, List.any_eq_true]
  exact ⟨k, List.mem_range.2 hk, h⟩

set_option maxHeartbeats 4000000 in
set_option maxRecDepth 100000 in
theorem PickLeast_walk (vm : Value) (ms : List Bool) (vl : Value) (xs : List Int) (o : Int) (w : World) (hm : RdB w vm ms) (hl : Rd w .i64 vl xs) (hw : ∀ n ∈ xs, (Lit.int .i64 n).wf = true) (hn : (Lit.int .i64 o).wf = true) :
    Calls Try.prog 4 #[vm, vl, .int .i64 o] w fun e w' => e = .returned (.bool true) ∧ Ext w w' := by
  obtain ⟨Am, cm, rfl⟩ := hm.shape
  obtain ⟨Al, cl, rfl⟩ := hl.shape
  have H := Lib.hid (Two.mk hm hl)
  have Hw := Lib.hid hw
  have Ho := Lib.hid (bounds_i64 hn)
  obtain ⟨P, hP⟩ : ∃ P, o % 100 = P := ⟨_, rfl⟩
  have hP0 : 0 ≤ P := by omega
  have hP1 : P < 100 := by omega
  have HP := Lib.hid hP
  clear hm hl hw hn hP
  by_cases hbig : 40 < ms.length ∨ 40 < xs.length
  · go_enter Try.func4, Try.ntmps4
    go_wp2_with fail
    refine (known15_calls w).mono ?_
    rintro e w1 ⟨rfl, hE1⟩
    by_cases h1 : 40 < ms.length
    · go_wp2_with fail
      go_ret
      exact ⟨rfl, hE1⟩
    · have h2 : 40 < xs.length := by omega
      go_wp2_with fail
      go_ret
      exact ⟨rfl, hE1⟩
  · have h1 : ms.length ≤ 40 := by omega
    have h2 : xs.length ≤ 40 := by omega
    clear hbig
    go_enter Try.func4, Try.ntmps4
    go_wp2_with fail
    refine (known15_calls w).mono ?_
    rintro e w1 ⟨rfl, hE1⟩
    rcases Nat.lt_or_ge xs.length ms.length with hle | hle
    · skip
      go_wp2_with fail
      refine (Next_calls _ _ _ _ w1 (H.out.ext hE1)).mono ?_
      rintro e w2 ⟨rfl, hE2⟩
      have hE := hE1.trans hE2
      clear hE1 hE2
      obtain ⟨V, hV⟩ : ∃ V, leastPos ms xs = V := ⟨_, rfl⟩
      rw [hV]
      have HV := Lib.hid hV
      clear hV
      go_wp2_with fail
      refine (within_calls o 100 w2 (by omega) (by omega) Ho.out).mono ?_
      rintro e w' ⟨rfl, rfl⟩
      rw [HP.out]
      go_wp2_with fail
      refine (Cold_calls _ _ _ _ _ w2 (H.out.ext hE) Hw.out hP0 (by omega)).mono ?_
      rintro e w3 ⟨rfl, hE3⟩
      have hE := hE.trans hE3
      clear hE3
      obtain ⟨C, hC⟩ : ∃ C, coldF ms xs P = C := ⟨_, rfl⟩
      rw [hC]
      have HC := Lib.hid hC
      clear hC
      go_wp2_with fail
      go_loopw [10, 11] (fun av iv wr => ∃ i : Nat, i ≤ xs.length ∧ iv = .int .i64 i ∧ av = .bool (anyTo ms i) ∧ Ext w wr) (fun av iv wr => xs.length - (intOf iv).toNat)
      case atStart => exact ⟨0, Nat.zero_le _, rfl, rfl, hE⟩
      case round =>
        clear hE
        obtain ⟨i, hi, rfl, rfl, hE⟩ := hrel
        have Hsucc := Lib.hid (anyTo_succ ms i)
        by_cases hlt : i < xs.length
        · obtain ⟨bm, offm, cm', he', hcm, hcmm, hcellm⟩ := RdB.pos (H.out.may.ext hE) (by omega)
          injection he' with e1 e2 e3
          subst e1 e3
          unfold maxLen at hcmm
          have d1 := hcellm i (by omega)
          obtain ⟨mb, hmb⟩ : ∃ mb, ms.getD i false = mb := ⟨_, rfl⟩
          obtain ⟨a, ha⟩ : ∃ a, anyTo ms i = a := ⟨_, rfl⟩
          have Hs := Lib.hid (show anyTo ms (i + 1) = (a || mb) by rw [Hsucc.out, hmb, ha])
          rw [hmb] at d1
          rw [ha]
          clear hcellm hmb ha Hsucc
          cases a <;> cases mb
          all_goals (
            go_wp2_with fail
            go_roundw
            case rel => exact ⟨i + 1, by omega, by go_num, by rw [Hs.out]; rfl, hE⟩
            case measure => simp [intOf]; omega)
        · obtain rfl : i = xs.length := by omega
          rcases leastPos_at ms xs with ⟨h1, h3⟩ | ⟨k, hk1, hk2, h1, h3, h4⟩
          · have hV : V = -1 := HV.out.symm.trans h1
            have hC : C = -1 := by rw [← HC.out, coldF, if_pos (.inl (by rw [h1]; decide))]
            have hA : anyTo ms xs.length = false := anyTo_none ms xs.length fun j hj => h3 j (by omega)
            rw [hA]
            subst hV hC
            clear hA h1 h3 HV HC Hsucc
            go_wp2_with fail
            go_ret
            exact ⟨rfl, hE⟩
          · have hV : V = (k : Int) := HV.out.symm.trans h1
            have hA : anyTo ms xs.length = true := anyTo_some ms xs.length k (by omega) h3
            obtain ⟨bm, offm, cm', he', hcm, hcmm, hcellm⟩ := RdB.pos (H.out.may.ext hE) (by omega)
            injection he' with e1 e2 e3
            subst e1 e3
            obtain ⟨bl, offl, cl', he', hcl, hclm, hcelll⟩ := Rd.pos (H.out.row.ext hE) (by omega)
            injection he' with e1 e2 e3
            subst e1 e3
            unfold maxLen at hcmm hclm
            have d1 := hcellm k hk1
            have d2 := hcelll k hk2
            rw [h3] at d1
            obtain ⟨q, hq⟩ : ∃ q, xs.getD k 0 = q := ⟨_, rfl⟩
            rw [hq] at d2 h4
            have hCv : C = if P - 3 < q then -1 else (k : Int) := by
              rw [← HC.out, coldF, h1, Int.toNat_natCast, hq]
              by_cases h : P - 3 < q
              · rw [if_pos h, if_pos (.inr h)]
              · rw [if_neg h, if_neg (by rintro (a | a) <;> omega)]
            have hCk : C = -1 ∨ C = k := by rw [hCv]; split <;> simp
            have HCv := Lib.hid hCv
            have H4 := Lib.hid h4
            have Hd2 := Lib.hid d2
            have hkL : k < xs.length := by omega
            rw [hA]
            subst hV
            clear hA h1 h3 HV HC Hsucc hcellm hcelll hq h4 hCv
            rcases hCk with hC | hC
            · have HCe := Lib.hid hC
              subst hC
              go_wp2_with fail
              have HE0 := Lib.hid hE
              clear hE d1
              go_loopw [12] (fun iv wr => ∃ i : Nat, i ≤ xs.length ∧ iv = .int .i64 i ∧ Ext w wr) (fun iv wr => xs.length - (intOf iv).toNat)
              case atStart => exact ⟨0, Nat.zero_le _, rfl, HE0.out⟩
              case round =>
                obtain ⟨i, hi, rfl, hE⟩ := hrel
                have d2 := Rd.at (H.out.row.ext hE) k hk2
                have d20 := Rd.at (H.out.row.ext HE0.out) k hk2
                rw [Hd2.out] at d20
                injection d20 with d20
                rw [← d20] at d2
                clear d20
                have hkl : (k : Int) < xs.length := by omega
                by_cases hlt : i < xs.length
                · have e1 := RdB.at (H.out.may.ext hE) i (by omega)
                  have e2 := Rd.at (H.out.row.ext hE) i (by omega)
                  have h4 := H4.out i (by omega)
                  have him : (i : Int) < ms.length := by omega
                  have hix : (i : Int) < xs.length := by omega
                  obtain ⟨p, hp⟩ : ∃ p, xs.getD i 0 = p := ⟨_, rfl⟩
                  obtain ⟨mb, hmb⟩ : ∃ mb, ms.getD i false = mb := ⟨_, rfl⟩
                  rw [hp] at e2 h4
                  rw [hmb] at e1 h4
                  clear hp hmb
                  cases mb with
                  | false =>
                    clear h4 e2
                    go_wp2_with fail
                    go_quiet (fail)
                    go_wp2_with fail
                    go_roundw
                    case rel => exact ⟨i + 1, by omega, by go_num, hE.drewN _⟩
                    case measure => simp [intOf]; omega
                  | true =>
                    obtain ⟨h5, h6⟩ := h4 rfl
                    have hpq : decide (p < q) = false := by simp; omega
                    clear h4
                    by_cases hpe : q = p
                    · have hki := h6 hpe
                      have hki2 : decide ((i : Int) < (k : Int)) = false := by simp; omega
                      subst hpe
                      clear h6 h5
                      go_wp2_with fail
                      go_quiet (fail)
                      go_wp2_with fail
                      go_roundw
                      case rel => exact ⟨i + 1, by omega, by go_num, hE.drewN _⟩
                      case measure => simp [intOf]; omega
                    · have hpe2 : (p == q) = false := beq_eq_false_iff_ne.2 (fun e => hpe e.symm)
                      clear h6 h5
                      go_wp2_with fail
                      go_quiet (fail)
                      go_wp2_with fail
                      go_roundw
                      case rel => exact ⟨i + 1, by omega, by go_num, hE.drewN _⟩
                      case measure => simp [intOf]; omega
                · obtain rfl : i = xs.length := by omega
                  have hE1 := hE
                  go_wp2_with fail
                  obtain ⟨B, hB⟩ : ∃ B, decide ((-1 : Int) = (k : Int)) = B := ⟨_, rfl⟩
                  have HB := Lib.hid hB
                  have hB2 : decide (q ≤ P - 3) = B := by
                    rw [← hB]
                    have := HCv.out
                    have h2 := HCe.out
                    by_cases hh : P - 3 < q
                    · rw [if_pos hh] at this
                      rw [decide_eq_false (by omega), decide_eq_false (by omega)]
                    · rw [if_neg hh] at this
                      rw [decide_eq_true (by omega), decide_eq_true (by omega)]
                  have HB2 := Lib.hid hB2
                  clear hB hB2
                  refine wp_region_lives mixed Ext [[0], [1], [2], [3], [4], [5], [6], [7], [8], [9], [10], [11], [12]]
                      [.val _ (· = .int .i64 (-1)),
                       .val _ (· = .int .i64 k),
                       .val _ (· = .bool B),
                       .val _ (· = .slice (some ⟨bl, offl, none⟩) xs.length cl),
                       .val _ (· = .int .i64 k),
                       .val _ (· = .pointer (some ⟨bl, offl + k, none⟩)),
                       .val _ (· = .int .i64 q),
                       .val _ (· = .int .i64 o),
                       .val _ (· = .int .i64 P),
                       .val _ (· = .int .i64 (P - 3)),
                       .val _ (· = .bool B),
                       .val _ (· = .bool true),
                       .val _ (· = .bool true)]
                      Ext.refl (fun _ _ _ h k => h.trans k) (by kernel_rfl) (by kernel_rfl) ?steps ?post
                  case steps =>
                    refine ⟨?_, ?_, ?_, ?_, ?_, ?_, ?_, ?_, ?_, ?_, ?_, ?_, ?_, trivial⟩
                    · refine fact_pure Ext.refl fun σ w hE hold hk => ?_
                      have h9 : σ 9 = .int .i64 (-1) := hold 9 (by kernel_rfl)
                      exact ⟨rfl, _, op_move rfl, h9⟩
                    · refine fact_pure Ext.refl fun σ w hE hold hk => ?_
                      have h8 : σ 8 = .int .i64 k := hold 8 (by kernel_rfl)
                      exact ⟨rfl, _, op_move rfl, h8⟩
                    · refine fact_pure Ext.refl fun σ w hE hold hk => ?_
                      have h115 : σ 115 = .int .i64 (-1) := hk.1
                      have h116 : σ 116 = .int .i64 k := hk.2.1
                      have hb := HB.out
                      exact ⟨rfl, .bool B, by rw [← HB.out]; go_simp, rfl⟩
                    · refine fact_pure Ext.refl fun σ w hE hold hk => ?_
                      have h1 : σ 1 = .slice (some ⟨bl, offl, none⟩) xs.length cl := hold 1 (by kernel_rfl)
                      exact ⟨rfl, _, op_move rfl, h1⟩
                    · refine fact_pure Ext.refl fun σ w hE hold hk => ?_
                      have h8 : σ 8 = .int .i64 k := hold 8 (by kernel_rfl)
                      exact ⟨rfl, _, op_move rfl, h8⟩
                    · refine fact_pure Ext.refl fun σ w hE hold hk => ?_
                      have h118 : σ 118 = .slice (some ⟨bl, offl, none⟩) xs.length cl := hk.1
                      have h119 : σ 119 = .int .i64 k := hk.2.1
                      exact ⟨rfl, .pointer (some ⟨bl, offl + k, none⟩), by go_simp, rfl⟩
                    · refine fact_pure Ext.refl fun σ w hE hold hk => ?_
                      have h120 : σ 120 = .pointer (some ⟨bl, offl + k, none⟩) := hk.1
                      have hcl := (Ext.of_drew hE).cell d2
                      exact ⟨rfl, .int .i64 q, by go_simp, rfl⟩
                    · refine fact_pure Ext.refl fun σ w hE hold hk => ?_
                      have h2 : σ 2 = .int .i64 o := hold 2 (by kernel_rfl)
                      exact ⟨rfl, _, op_move rfl, h2⟩
                    · intro σ w hE hold hk
                      have h122 : σ 122 = .int .i64 o := hk.1
                      refine ⟨rfl, Does.call (op_call2 rfl Try.func9 (by kernel_rfl) (by kernel_rfl) h122 (rfl)) (within_calls o 100 w (by omega) (by omega) Ho.out) ?_⟩
                      rintro e w' ⟨rfl, rfl⟩
                      exact ⟨_, rfl, Ext.refl _, by show Value.int .i64 _ = _; rw [HP.out]⟩
                    · refine fact_pure Ext.refl fun σ w hE hold hk => ?_
                      have h123 : σ 123 = .int .i64 P := hk.1
                      exact ⟨rfl, .int .i64 (P - 3), by go_simp; rw [IntKind.wrap_i64]; omega, rfl⟩
                    · refine fact_pure Ext.refl fun σ w hE hold hk => ?_
                      have h121 : σ 121 = .int .i64 q := hk.1
                      have h124 : σ 124 = .int .i64 (P - 3) := hk.2.1
                      have hb := HB2.out
                      exact ⟨rfl, .bool B, by rw [← HB2.out]; go_simp, rfl⟩
                    · refine fact_pure Ext.refl fun σ w hE hold hk => ?_
                      have h117 : σ 117 = .bool B := hk.1
                      have h125 : σ 125 = .bool B := hk.2.1
                      exact ⟨rfl, .bool true, by go_simp, rfl⟩
                    · refine fact_pure Ext.refl fun σ w hE hold hk => ?_
                      have h126 : σ 126 = .bool true := hk.1
                      exact ⟨rfl, _, op_assign rfl, h126⟩
                  case post =>
                    intro σ w3 hE3 hL
                    have h6 : σ 6 = .bool true := hL.2.2.2.2.2.2.2.2.2.2.2.2.1
                    clear hL
                    simp only [putAll, List.map_cons, List.map_nil, List.zip_cons_cons, List.zip_nil_right, List.foldl_cons, List.foldl_nil, Act.put, Option.getD_some, List.setIfInBounds_toArray, List.set_cons_zero, List.set_cons_succ]
                    rw [h6]; clear h6
                    go_wp2_with fail
                    go_ret
                    exact ⟨rfl, hE1.trans (Ext.of_drew hE3)⟩
            · have HCe := Lib.hid hC
              subst hC
              go_wp2_with fail
              have HE0 := Lib.hid hE
              clear hE d1
              go_loopw [12] (fun iv wr => ∃ i : Nat, i ≤ xs.length ∧ iv = .int .i64 i ∧ Ext w wr) (fun iv wr => xs.length - (intOf iv).toNat)
              case atStart => exact ⟨0, Nat.zero_le _, rfl, HE0.out⟩
              case round =>
                obtain ⟨i, hi, rfl, hE⟩ := hrel
                have d2 := Rd.at (H.out.row.ext hE) k hk2
                have d20 := Rd.at (H.out.row.ext HE0.out) k hk2
                rw [Hd2.out] at d20
                injection d20 with d20
                rw [← d20] at d2
                clear d20
                have hkl : (k : Int) < xs.length := by omega
                by_cases hlt : i < xs.length
                · have e1 := RdB.at (H.out.may.ext hE) i (by omega)
                  have e2 := Rd.at (H.out.row.ext hE) i (by omega)
                  have h4 := H4.out i (by omega)
                  have him : (i : Int) < ms.length := by omega
                  have hix : (i : Int) < xs.length := by omega
                  obtain ⟨p, hp⟩ : ∃ p, xs.getD i 0 = p := ⟨_, rfl⟩
                  obtain ⟨mb, hmb⟩ : ∃ mb, ms.getD i false = mb := ⟨_, rfl⟩
                  rw [hp] at e2 h4
                  rw [hmb] at e1 h4
                  clear hp hmb
                  cases mb with
                  | false =>
                    clear h4 e2
                    go_wp2_with fail
                    go_quiet (fail)
                    go_wp2_with fail
                    go_roundw
                    case rel => exact ⟨i + 1, by omega, by go_num, hE.drewN _⟩
                    case measure => simp [intOf]; omega
                  | true =>
                    obtain ⟨h5, h6⟩ := h4 rfl
                    have hpq : decide (p < q) = false := by simp; omega
                    clear h4
                    by_cases hpe : q = p
                    · have hki := h6 hpe
                      have hki2 : decide ((i : Int) < (k : Int)) = false := by simp; omega
                      subst hpe
                      clear h6 h5
                      go_wp2_with fail
                      go_quiet (fail)
                      go_wp2_with fail
                      go_roundw
                      case rel => exact ⟨i + 1, by omega, by go_num, hE.drewN _⟩
                      case measure => simp [intOf]; omega
                    · have hpe2 : (p == q) = false := beq_eq_false_iff_ne.2 (fun e => hpe e.symm)
                      clear h6 h5
                      go_wp2_with fail
                      go_quiet (fail)
                      go_wp2_with fail
                      go_roundw
                      case rel => exact ⟨i + 1, by omega, by go_num, hE.drewN _⟩
                      case measure => simp [intOf]; omega
                · obtain rfl : i = xs.length := by omega
                  have hE1 := hE
                  go_wp2_with fail
                  obtain ⟨B, hB⟩ : ∃ B, decide ((k : Int) = (k : Int)) = B := ⟨_, rfl⟩
                  have HB := Lib.hid hB
                  have hB2 : decide (q ≤ P - 3) = B := by
                    rw [← hB]
                    have := HCv.out
                    have h2 := HCe.out
                    by_cases hh : P - 3 < q
                    · rw [if_pos hh] at this
                      rw [decide_eq_false (by omega), decide_eq_false (by omega)]
                    · rw [if_neg hh] at this
                      rw [decide_eq_true (by omega), decide_eq_true (by omega)]
                  have HB2 := Lib.hid hB2
                  clear hB hB2
                  refine wp_region_lives mixed Ext [[0], [1], [2], [3], [4], [5], [6], [7], [8], [9], [10], [11], [12]]
                      [.val _ (· = .int .i64 k),
                       .val _ (· = .int .i64 k),
                       .val _ (· = .bool B),
                       .val _ (· = .slice (some ⟨bl, offl, none⟩) xs.length cl),
                       .val _ (· = .int .i64 k),
                       .val _ (· = .pointer (some ⟨bl, offl + k, none⟩)),
                       .val _ (· = .int .i64 q),
                       .val _ (· = .int .i64 o),
                       .val _ (· = .int .i64 P),
                       .val _ (· = .int .i64 (P - 3)),
                       .val _ (· = .bool B),
                       .val _ (· = .bool true),
                       .val _ (· = .bool true)]
                      Ext.refl (fun _ _ _ h k => h.trans k) (by kernel_rfl) (by kernel_rfl) ?steps ?post
                  case steps =>
                    refine ⟨?_, ?_, ?_, ?_, ?_, ?_, ?_, ?_, ?_, ?_, ?_, ?_, ?_, trivial⟩
                    · refine fact_pure Ext.refl fun σ w hE hold hk => ?_
                      have h9 : σ 9 = .int .i64 k := hold 9 (by kernel_rfl)
                      exact ⟨rfl, _, op_move rfl, h9⟩
                    · refine fact_pure Ext.refl fun σ w hE hold hk => ?_
                      have h8 : σ 8 = .int .i64 k := hold 8 (by kernel_rfl)
                      exact ⟨rfl, _, op_move rfl, h8⟩
                    · refine fact_pure Ext.refl fun σ w hE hold hk => ?_
                      have h115 : σ 115 = .int .i64 k := hk.1
                      have h116 : σ 116 = .int .i64 k := hk.2.1
                      have hb := HB.out
                      exact ⟨rfl, .bool B, by rw [← HB.out]; go_simp, rfl⟩
                    · refine fact_pure Ext.refl fun σ w hE hold hk => ?_
                      have h1 : σ 1 = .slice (some ⟨bl, offl, none⟩) xs.length cl := hold 1 (by kernel_rfl)
                      exact ⟨rfl, _, op_move rfl, h1⟩
                    · refine fact_pure Ext.refl fun σ w hE hold hk => ?_
                      have h8 : σ 8 = .int .i64 k := hold 8 (by kernel_rfl)
                      exact ⟨rfl, _, op_move rfl, h8⟩
                    · refine fact_pure Ext.refl fun σ w hE hold hk => ?_
                      have h118 : σ 118 = .slice (some ⟨bl, offl, none⟩) xs.length cl := hk.1
                      have h119 : σ 119 = .int .i64 k := hk.2.1
                      exact ⟨rfl, .pointer (some ⟨bl, offl + k, none⟩), by go_simp, rfl⟩
                    · refine fact_pure Ext.refl fun σ w hE hold hk => ?_
                      have h120 : σ 120 = .pointer (some ⟨bl, offl + k, none⟩) := hk.1
                      have hcl := (Ext.of_drew hE).cell d2
                      exact ⟨rfl, .int .i64 q, by go_simp, rfl⟩
                    · refine fact_pure Ext.refl fun σ w hE hold hk => ?_
                      have h2 : σ 2 = .int .i64 o := hold 2 (by kernel_rfl)
                      exact ⟨rfl, _, op_move rfl, h2⟩
                    · intro σ w hE hold hk
                      have h122 : σ 122 = .int .i64 o := hk.1
                      refine ⟨rfl, Does.call (op_call2 rfl Try.func9 (by kernel_rfl) (by kernel_rfl) h122 (rfl)) (within_calls o 100 w (by omega) (by omega) Ho.out) ?_⟩
                      rintro e w' ⟨rfl, rfl⟩
                      exact ⟨_, rfl, Ext.refl _, by show Value.int .i64 _ = _; rw [HP.out]⟩
                    · refine fact_pure Ext.refl fun σ w hE hold hk => ?_
                      have h123 : σ 123 = .int .i64 P := hk.1
                      exact ⟨rfl, .int .i64 (P - 3), by go_simp; rw [IntKind.wrap_i64]; omega, rfl⟩
                    · refine fact_pure Ext.refl fun σ w hE hold hk => ?_
                      have h121 : σ 121 = .int .i64 q := hk.1
                      have h124 : σ 124 = .int .i64 (P - 3) := hk.2.1
                      have hb := HB2.out
                      exact ⟨rfl, .bool B, by rw [← HB2.out]; go_simp, rfl⟩
                    · refine fact_pure Ext.refl fun σ w hE hold hk => ?_
                      have h117 : σ 117 = .bool B := hk.1
                      have h125 : σ 125 = .bool B := hk.2.1
                      exact ⟨rfl, .bool true, by go_simp, rfl⟩
                    · refine fact_pure Ext.refl fun σ w hE hold hk => ?_
                      have h126 : σ 126 = .bool true := hk.1
                      exact ⟨rfl, _, op_assign rfl, h126⟩
                  case post =>
                    intro σ w3 hE3 hL
                    have h6 : σ 6 = .bool true := hL.2.2.2.2.2.2.2.2.2.2.2.2.1
                    clear hL
                    simp only [putAll, List.map_cons, List.map_nil, List.zip_cons_cons, List.zip_nil_right, List.foldl_cons, List.foldl_nil, Act.put, Option.getD_some, List.setIfInBounds_toArray, List.set_cons_zero, List.set_cons_succ]
                    rw [h6]; clear h6
                    go_wp2_with fail
                    go_ret
                    exact ⟨rfl, hE1.trans (Ext.of_drew hE3)⟩
    · skip
      go_wp2_with fail
      refine (Next_calls _ _ _ _ w1 (H.out.ext hE1)).mono ?_
      rintro e w2 ⟨rfl, hE2⟩
      have hE := hE1.trans hE2
      clear hE1 hE2
      obtain ⟨V, hV⟩ : ∃ V, leastPos ms xs = V := ⟨_, rfl⟩
      rw [hV]
      have HV := Lib.hid hV
      clear hV
      go_wp2_with fail
      refine (within_calls o 100 w2 (by omega) (by omega) Ho.out).mono ?_
      rintro e w' ⟨rfl, rfl⟩
      rw [HP.out]
      go_wp2_with fail
      refine (Cold_calls _ _ _ _ _ w2 (H.out.ext hE) Hw.out hP0 (by omega)).mono ?_
      rintro e w3 ⟨rfl, hE3⟩
      have hE := hE.trans hE3
      clear hE3
      obtain ⟨C, hC⟩ : ∃ C, coldF ms xs P = C := ⟨_, rfl⟩
      rw [hC]
      have HC := Lib.hid hC
      clear hC
      go_wp2_with fail
      go_loopw [10, 11] (fun av iv wr => ∃ i : Nat, i ≤ ms.length ∧ iv = .int .i64 i ∧ av = .bool (anyTo ms i) ∧ Ext w wr) (fun av iv wr => ms.length - (intOf iv).toNat)
      case atStart => exact ⟨0, Nat.zero_le _, rfl, rfl, hE⟩
      case round =>
        clear hE
        obtain ⟨i, hi, rfl, rfl, hE⟩ := hrel
        have Hsucc := Lib.hid (anyTo_succ ms i)
        by_cases hlt : i < ms.length
        · obtain ⟨bm, offm, cm', he', hcm, hcmm, hcellm⟩ := RdB.pos (H.out.may.ext hE) (by omega)
          injection he' with e1 e2 e3
          subst e1 e3
          unfold maxLen at hcmm
          have d1 := hcellm i (by omega)
          obtain ⟨mb, hmb⟩ : ∃ mb, ms.getD i false = mb := ⟨_, rfl⟩
          obtain ⟨a, ha⟩ : ∃ a, anyTo ms i = a := ⟨_, rfl⟩
          have Hs := Lib.hid (show anyTo ms (i + 1) = (a || mb) by rw [Hsucc.out, hmb, ha])
          rw [hmb] at d1
          rw [ha]
          clear hcellm hmb ha Hsucc
          cases a <;> cases mb
          all_goals (
            go_wp2_with fail
            go_roundw
            case rel => exact ⟨i + 1, by omega, by go_num, by rw [Hs.out]; rfl, hE⟩
            case measure => simp [intOf]; omega)
        · obtain rfl : i = ms.length := by omega
          rcases leastPos_at ms xs with ⟨h1, h3⟩ | ⟨k, hk1, hk2, h1, h3, h4⟩
          · have hV : V = -1 := HV.out.symm.trans h1
            have hC : C = -1 := by rw [← HC.out, coldF, if_pos (.inl (by rw [h1]; decide))]
            have hA : anyTo ms ms.length = false := anyTo_none ms ms.length fun j hj => h3 j (by omega)
            rw [hA]
            subst hV hC
            clear hA h1 h3 HV HC Hsucc
            go_wp2_with fail
            go_ret
            exact ⟨rfl, hE⟩
          · have hV : V = (k : Int) := HV.out.symm.trans h1
            have hA : anyTo ms ms.length = true := anyTo_some ms ms.length k (by omega) h3
            obtain ⟨bm, offm, cm', he', hcm, hcmm, hcellm⟩ := RdB.pos (H.out.may.ext hE) (by omega)
            injection he' with e1 e2 e3
            subst e1 e3
            obtain ⟨bl, offl, cl', he', hcl, hclm, hcelll⟩ := Rd.pos (H.out.row.ext hE) (by omega)
            injection he' with e1 e2 e3
            subst e1 e3
            unfold maxLen at hcmm hclm
            have d1 := hcellm k hk1
            have d2 := hcelll k hk2
            rw [h3] at d1
            obtain ⟨q, hq⟩ : ∃ q, xs.getD k 0 = q := ⟨_, rfl⟩
            rw [hq] at d2 h4
            have hCv : C = if P - 3 < q then -1 else (k : Int) := by
              rw [← HC.out, coldF, h1, Int.toNat_natCast, hq]
              by_cases h : P - 3 < q
              · rw [if_pos h, if_pos (.inr h)]
              · rw [if_neg h, if_neg (by rintro (a | a) <;> omega)]
            have hCk : C = -1 ∨ C = k := by rw [hCv]; split <;> simp
            have HCv := Lib.hid hCv
            have H4 := Lib.hid h4
            have Hd2 := Lib.hid d2
            have hkL : k < ms.length := by omega
            rw [hA]
            subst hV
            clear hA h1 h3 HV HC Hsucc hcellm hcelll hq h4 hCv
            rcases hCk with hC | hC
            · have HCe := Lib.hid hC
              subst hC
              go_wp2_with fail
              have HE0 := Lib.hid hE
              clear hE d1
              go_loopw [12] (fun iv wr => ∃ i : Nat, i ≤ ms.length ∧ iv = .int .i64 i ∧ Ext w wr) (fun iv wr => ms.length - (intOf iv).toNat)
              case atStart => exact ⟨0, Nat.zero_le _, rfl, HE0.out⟩
              case round =>
                obtain ⟨i, hi, rfl, hE⟩ := hrel
                have d2 := Rd.at (H.out.row.ext hE) k hk2
                have d20 := Rd.at (H.out.row.ext HE0.out) k hk2
                rw [Hd2.out] at d20
                injection d20 with d20
                rw [← d20] at d2
                clear d20
                have hkl : (k : Int) < xs.length := by omega
                by_cases hlt : i < ms.length
                · have e1 := RdB.at (H.out.may.ext hE) i (by omega)
                  have e2 := Rd.at (H.out.row.ext hE) i (by omega)
                  have h4 := H4.out i (by omega)
                  have him : (i : Int) < ms.length := by omega
                  have hix : (i : Int) < xs.length := by omega
                  obtain ⟨p, hp⟩ : ∃ p, xs.getD i 0 = p := ⟨_, rfl⟩
                  obtain ⟨mb, hmb⟩ : ∃ mb, ms.getD i false = mb := ⟨_, rfl⟩
                  rw [hp] at e2 h4
                  rw [hmb] at e1 h4
                  clear hp hmb
                  cases mb with
                  | false =>
                    clear h4 e2
                    go_wp2_with fail
                    go_quiet (fail)
                    go_wp2_with fail
                    go_roundw
                    case rel => exact ⟨i + 1, by omega, by go_num, hE.drewN _⟩
                    case measure => simp [intOf]; omega
                  | true =>
                    obtain ⟨h5, h6⟩ := h4 rfl
                    have hpq : decide (p < q) = false := by simp; omega
                    clear h4
                    by_cases hpe : q = p
                    · have hki := h6 hpe
                      have hki2 : decide ((i : Int) < (k : Int)) = false := by simp; omega
                      subst hpe
                      clear h6 h5
                      go_wp2_with fail
                      go_quiet (fail)
                      go_wp2_with fail
                      go_roundw
                      case rel => exact ⟨i + 1, by omega, by go_num, hE.drewN _⟩
                      case measure => simp [intOf]; omega
                    · have hpe2 : (p == q) = false := beq_eq_false_iff_ne.2 (fun e => hpe e.symm)
                      clear h6 h5
                      go_wp2_with fail
                      go_quiet (fail)
                      go_wp2_with fail
                      go_roundw
                      case rel => exact ⟨i + 1, by omega, by go_num, hE.drewN _⟩
                      case measure => simp [intOf]; omega
                · obtain rfl : i = ms.length := by omega
                  have hE1 := hE
                  go_wp2_with fail
                  obtain ⟨B, hB⟩ : ∃ B, decide ((-1 : Int) = (k : Int)) = B := ⟨_, rfl⟩
                  have HB := Lib.hid hB
                  have hB2 : decide (q ≤ P - 3) = B := by
                    rw [← hB]
                    have := HCv.out
                    have h2 := HCe.out
                    by_cases hh : P - 3 < q
                    · rw [if_pos hh] at this
                      rw [decide_eq_false (by omega), decide_eq_false (by omega)]
                    · rw [if_neg hh] at this
                      rw [decide_eq_true (by omega), decide_eq_true (by omega)]
                  have HB2 := Lib.hid hB2
                  clear hB hB2
                  refine wp_region_lives mixed Ext [[0], [1], [2], [3], [4], [5], [6], [7], [8], [9], [10], [11], [12]]
                      [.val _ (· = .int .i64 (-1)),
                       .val _ (· = .int .i64 k),
                       .val _ (· = .bool B),
                       .val _ (· = .slice (some ⟨bl, offl, none⟩) xs.length cl),
                       .val _ (· = .int .i64 k),
                       .val _ (· = .pointer (some ⟨bl, offl + k, none⟩)),
                       .val _ (· = .int .i64 q),
                       .val _ (· = .int .i64 o),
                       .val _ (· = .int .i64 P),
                       .val _ (· = .int .i64 (P - 3)),
                       .val _ (· = .bool B),
                       .val _ (· = .bool true),
                       .val _ (· = .bool true)]
                      Ext.refl (fun _ _ _ h k => h.trans k) (by kernel_rfl) (by kernel_rfl) ?steps ?post
                  case steps =>
                    refine ⟨?_, ?_, ?_, ?_, ?_, ?_, ?_, ?_, ?_, ?_, ?_, ?_, ?_, trivial⟩
                    · refine fact_pure Ext.refl fun σ w hE hold hk => ?_
                      have h9 : σ 9 = .int .i64 (-1) := hold 9 (by kernel_rfl)
                      exact ⟨rfl, _, op_move rfl, h9⟩
                    · refine fact_pure Ext.refl fun σ w hE hold hk => ?_
                      have h8 : σ 8 = .int .i64 k := hold 8 (by kernel_rfl)
                      exact ⟨rfl, _, op_move rfl, h8⟩
                    · refine fact_pure Ext.refl fun σ w hE hold hk => ?_
                      have h115 : σ 115 = .int .i64 (-1) := hk.1
                      have h116 : σ 116 = .int .i64 k := hk.2.1
                      have hb := HB.out
                      exact ⟨rfl, .bool B, by rw [← HB.out]; go_simp, rfl⟩
                    · refine fact_pure Ext.refl fun σ w hE hold hk => ?_
                      have h1 : σ 1 = .slice (some ⟨bl, offl, none⟩) xs.length cl := hold 1 (by kernel_rfl)
                      exact ⟨rfl, _, op_move rfl, h1⟩
                    · refine fact_pure Ext.refl fun σ w hE hold hk => ?_
                      have h8 : σ 8 = .int .i64 k := hold 8 (by kernel_rfl)
                      exact ⟨rfl, _, op_move rfl, h8⟩
                    · refine fact_pure Ext.refl fun σ w hE hold hk => ?_
                      have h118 : σ 118 = .slice (some ⟨bl, offl, none⟩) xs.length cl := hk.1
                      have h119 : σ 119 = .int .i64 k := hk.2.1
                      exact ⟨rfl, .pointer (some ⟨bl, offl + k, none⟩), by go_simp, rfl⟩
                    · refine fact_pure Ext.refl fun σ w hE hold hk => ?_
                      have h120 : σ 120 = .pointer (some ⟨bl, offl + k, none⟩) := hk.1
                      have hcl := (Ext.of_drew hE).cell d2
                      exact ⟨rfl, .int .i64 q, by go_simp, rfl⟩
                    · refine fact_pure Ext.refl fun σ w hE hold hk => ?_
                      have h2 : σ 2 = .int .i64 o := hold 2 (by kernel_rfl)
                      exact ⟨rfl, _, op_move rfl, h2⟩
                    · intro σ w hE hold hk
                      have h122 : σ 122 = .int .i64 o := hk.1
                      refine ⟨rfl, Does.call (op_call2 rfl Try.func9 (by kernel_rfl) (by kernel_rfl) h122 (rfl)) (within_calls o 100 w (by omega) (by omega) Ho.out) ?_⟩
                      rintro e w' ⟨rfl, rfl⟩
                      exact ⟨_, rfl, Ext.refl _, by show Value.int .i64 _ = _; rw [HP.out]⟩
                    · refine fact_pure Ext.refl fun σ w hE hold hk => ?_
                      have h123 : σ 123 = .int .i64 P := hk.1
                      exact ⟨rfl, .int .i64 (P - 3), by go_simp; rw [IntKind.wrap_i64]; omega, rfl⟩
                    · refine fact_pure Ext.refl fun σ w hE hold hk => ?_
                      have h121 : σ 121 = .int .i64 q := hk.1
                      have h124 : σ 124 = .int .i64 (P - 3) := hk.2.1
                      have hb := HB2.out
                      exact ⟨rfl, .bool B, by rw [← HB2.out]; go_simp, rfl⟩
                    · refine fact_pure Ext.refl fun σ w hE hold hk => ?_
                      have h117 : σ 117 = .bool B := hk.1
                      have h125 : σ 125 = .bool B := hk.2.1
                      exact ⟨rfl, .bool true, by go_simp, rfl⟩
                    · refine fact_pure Ext.refl fun σ w hE hold hk => ?_
                      have h126 : σ 126 = .bool true := hk.1
                      exact ⟨rfl, _, op_assign rfl, h126⟩
                  case post =>
                    intro σ w3 hE3 hL
                    have h6 : σ 6 = .bool true := hL.2.2.2.2.2.2.2.2.2.2.2.2.1
                    clear hL
                    simp only [putAll, List.map_cons, List.map_nil, List.zip_cons_cons, List.zip_nil_right, List.foldl_cons, List.foldl_nil, Act.put, Option.getD_some, List.setIfInBounds_toArray, List.set_cons_zero, List.set_cons_succ]
                    rw [h6]; clear h6
                    go_wp2_with fail
                    go_ret
                    exact ⟨rfl, hE1.trans (Ext.of_drew hE3)⟩
            · have HCe := Lib.hid hC
              subst hC
              go_wp2_with fail
              have HE0 := Lib.hid hE
              clear hE d1
              go_loopw [12] (fun iv wr => ∃ i : Nat, i ≤ ms.length ∧ iv = .int .i64 i ∧ Ext w wr) (fun iv wr => ms.length - (intOf iv).toNat)
              case atStart => exact ⟨0, Nat.zero_le _, rfl, HE0.out⟩
              case round =>
                obtain ⟨i, hi, rfl, hE⟩ := hrel
                have d2 := Rd.at (H.out.row.ext hE) k hk2
                have d20 := Rd.at (H.out.row.ext HE0.out) k hk2
                rw [Hd2.out] at d20
                injection d20 with d20
                rw [← d20] at d2
                clear d20
                have hkl : (k : Int) < xs.length := by omega
                by_cases hlt : i < ms.length
                · have e1 := RdB.at (H.out.may.ext hE) i (by omega)
                  have e2 := Rd.at (H.out.row.ext hE) i (by omega)
                  have h4 := H4.out i (by omega)
                  have him : (i : Int) < ms.length := by omega
                  have hix : (i : Int) < xs.length := by omega
                  obtain ⟨p, hp⟩ : ∃ p, xs.getD i 0 = p := ⟨_, rfl⟩
                  obtain ⟨mb, hmb⟩ : ∃ mb, ms.getD i false = mb := ⟨_, rfl⟩
                  rw [hp] at e2 h4
                  rw [hmb] at e1 h4
                  clear hp hmb
                  cases mb with
                  | false =>
                    clear h4 e2
                    go_wp2_with fail
                    go_quiet (fail)
                    go_wp2_with fail
                    go_roundw
                    case rel => exact ⟨i + 1, by omega, by go_num, hE.drewN _⟩
                    case measure => simp [intOf]; omega
                  | true =>
                    obtain ⟨h5, h6⟩ := h4 rfl
                    have hpq : decide (p < q) = false := by simp; omega
                    clear h4
                    by_cases hpe : q = p
                    · have hki := h6 hpe
                      have hki2 : decide ((i : Int) < (k : Int)) = false := by simp; omega
                      subst hpe
                      clear h6 h5
                      go_wp2_with fail
                      go_quiet (fail)
                      go_wp2_with fail
                      go_roundw
                      case rel => exact ⟨i + 1, by omega, by go_num, hE.drewN _⟩
                      case measure => simp [intOf]; omega
                    · have hpe2 : (p == q) = false := beq_eq_false_iff_ne.2 (fun e => hpe e.symm)
                      clear h6 h5
                      go_wp2_with fail
                      go_quiet (fail)
                      go_wp2_with fail
                      go_roundw
                      case rel => exact ⟨i + 1, by omega, by go_num, hE.drewN _⟩
                      case measure => simp [intOf]; omega
                · obtain rfl : i = ms.length := by omega
                  have hE1 := hE
                  go_wp2_with fail
                  obtain ⟨B, hB⟩ : ∃ B, decide ((k : Int) = (k : Int)) = B := ⟨_, rfl⟩
                  have HB := Lib.hid hB
                  have hB2 : decide (q ≤ P - 3) = B := by
                    rw [← hB]
                    have := HCv.out
                    have h2 := HCe.out
                    by_cases hh : P - 3 < q
                    · rw [if_pos hh] at this
                      rw [decide_eq_false (by omega), decide_eq_false (by omega)]
                    · rw [if_neg hh] at this
                      rw [decide_eq_true (by omega), decide_eq_true (by omega)]
                  have HB2 := Lib.hid hB2
                  clear hB hB2
                  refine wp_region_lives mixed Ext [[0], [1], [2], [3], [4], [5], [6], [7], [8], [9], [10], [11], [12]]
                      [.val _ (· = .int .i64 k),
                       .val _ (· = .int .i64 k),
                       .val _ (· = .bool B),
                       .val _ (· = .slice (some ⟨bl, offl, none⟩) xs.length cl),
                       .val _ (· = .int .i64 k),
                       .val _ (· = .pointer (some ⟨bl, offl + k, none⟩)),
                       .val _ (· = .int .i64 q),
                       .val _ (· = .int .i64 o),
                       .val _ (· = .int .i64 P),
                       .val _ (· = .int .i64 (P - 3)),
                       .val _ (· = .bool B),
                       .val _ (· = .bool true),
                       .val _ (· = .bool true)]
                      Ext.refl (fun _ _ _ h k => h.trans k) (by kernel_rfl) (by kernel_rfl) ?steps ?post
                  case steps =>
                    refine ⟨?_, ?_, ?_, ?_, ?_, ?_, ?_, ?_, ?_, ?_, ?_, ?_, ?_, trivial⟩
                    · refine fact_pure Ext.refl fun σ w hE hold hk => ?_
                      have h9 : σ 9 = .int .i64 k := hold 9 (by kernel_rfl)
                      exact ⟨rfl, _, op_move rfl, h9⟩
                    · refine fact_pure Ext.refl fun σ w hE hold hk => ?_
                      have h8 : σ 8 = .int .i64 k := hold 8 (by kernel_rfl)
                      exact ⟨rfl, _, op_move rfl, h8⟩
                    · refine fact_pure Ext.refl fun σ w hE hold hk => ?_
                      have h115 : σ 115 = .int .i64 k := hk.1
                      have h116 : σ 116 = .int .i64 k := hk.2.1
                      have hb := HB.out
                      exact ⟨rfl, .bool B, by rw [← HB.out]; go_simp, rfl⟩
                    · refine fact_pure Ext.refl fun σ w hE hold hk => ?_
                      have h1 : σ 1 = .slice (some ⟨bl, offl, none⟩) xs.length cl := hold 1 (by kernel_rfl)
                      exact ⟨rfl, _, op_move rfl, h1⟩
                    · refine fact_pure Ext.refl fun σ w hE hold hk => ?_
                      have h8 : σ 8 = .int .i64 k := hold 8 (by kernel_rfl)
                      exact ⟨rfl, _, op_move rfl, h8⟩
                    · refine fact_pure Ext.refl fun σ w hE hold hk => ?_
                      have h118 : σ 118 = .slice (some ⟨bl, offl, none⟩) xs.length cl := hk.1
                      have h119 : σ 119 = .int .i64 k := hk.2.1
                      exact ⟨rfl, .pointer (some ⟨bl, offl + k, none⟩), by go_simp, rfl⟩
                    · refine fact_pure Ext.refl fun σ w hE hold hk => ?_
                      have h120 : σ 120 = .pointer (some ⟨bl, offl + k, none⟩) := hk.1
                      have hcl := (Ext.of_drew hE).cell d2
                      exact ⟨rfl, .int .i64 q, by go_simp, rfl⟩
                    · refine fact_pure Ext.refl fun σ w hE hold hk => ?_
                      have h2 : σ 2 = .int .i64 o := hold 2 (by kernel_rfl)
                      exact ⟨rfl, _, op_move rfl, h2⟩
                    · intro σ w hE hold hk
                      have h122 : σ 122 = .int .i64 o := hk.1
                      refine ⟨rfl, Does.call (op_call2 rfl Try.func9 (by kernel_rfl) (by kernel_rfl) h122 (rfl)) (within_calls o 100 w (by omega) (by omega) Ho.out) ?_⟩
                      rintro e w' ⟨rfl, rfl⟩
                      exact ⟨_, rfl, Ext.refl _, by show Value.int .i64 _ = _; rw [HP.out]⟩
                    · refine fact_pure Ext.refl fun σ w hE hold hk => ?_
                      have h123 : σ 123 = .int .i64 P := hk.1
                      exact ⟨rfl, .int .i64 (P - 3), by go_simp; rw [IntKind.wrap_i64]; omega, rfl⟩
                    · refine fact_pure Ext.refl fun σ w hE hold hk => ?_
                      have h121 : σ 121 = .int .i64 q := hk.1
                      have h124 : σ 124 = .int .i64 (P - 3) := hk.2.1
                      have hb := HB2.out
                      exact ⟨rfl, .bool B, by rw [← HB2.out]; go_simp, rfl⟩
                    · refine fact_pure Ext.refl fun σ w hE hold hk => ?_
                      have h117 : σ 117 = .bool B := hk.1
                      have h125 : σ 125 = .bool B := hk.2.1
                      exact ⟨rfl, .bool true, by go_simp, rfl⟩
                    · refine fact_pure Ext.refl fun σ w hE hold hk => ?_
                      have h126 : σ 126 = .bool true := hk.1
                      exact ⟨rfl, _, op_assign rfl, h126⟩
                  case post =>
                    intro σ w3 hE3 hL
                    have h6 : σ 6 = .bool true := hL.2.2.2.2.2.2.2.2.2.2.2.2.1
                    clear hL
                    simp only [putAll, List.map_cons, List.map_nil, List.zip_cons_cons, List.zip_nil_right, List.foldl_cons, List.foldl_nil, Act.put, Option.getD_some, List.setIfInBounds_toArray, List.set_cons_zero, List.set_cons_succ]
                    rw [h6]; clear h6
                    go_wp2_with fail
                    go_ret
                    exact ⟨rfl, hE1.trans (Ext.of_drew hE3)⟩
end Go.Proofs.Ytgmndmfcacadcaa
