/-
  The walk of the law PickOne.
-/
import Derived.Test.YtgmndmfcacadcaaPickX
import Derived.Test.YtgmndmfcacadcaaMk
import Derived.WalkArith
set_option linter.unusedSimpArgs false
set_option linter.unusedVariables false
namespace Go.Proofs.Ytgmndmfcacadcaa
open Go.RowKit
attribute [local go_sem] slotEval

theorem infoI64 : (Try.prog.info? 3).map (fun i => (i.zero, i.size, i.bytes)) = some (some (.int .i64 0), 1, 8) := by kernel_rfl
theorem infoBool : (Try.prog.info? 4).map (fun i => (i.zero, i.size, i.bytes)) = some (some (.bool false), 1, 1) := by kernel_rfl

/-- Two rows of other types lie in other blocks. -/
theorem apart_rows {w : World} {b b' g g' n n' m m' c c' : Nat} {e e' : TypeId} {xs ys : List Value} (h : w.ownsRow b e 1 (.slice (some ⟨g, 0, none⟩) n c) m xs) (h' : w.ownsRow b' e' 1 (.slice (some ⟨g', 0, none⟩) n' c') m' ys) (he : e ≠ e') : g ≠ g' := by
  rintro rfl
  rcases h.2 with ⟨h1, _⟩ | ⟨q, cap, cur, hv, _, hg, _⟩
  · cases h1
  · rcases h'.2 with ⟨h1, _⟩ | ⟨q', cap', cur', hv', _, hg', _⟩
    · cases h1
    · injection hv with e1; injection e1 with e1; injection e1 with e1
      injection hv' with e2; injection e2 with e2; injection e2 with e2
      subst e1 e2
      rw [hg] at hg'
      injection hg' with hg'
      injection hg' with _ hg'
      exact he hg'

theorem leastPos_none (ms : List Bool) (xs : List Int) (h : ∀ j, j < ms.length → ms.getD j false = false) : leastPos ms xs = -1 := by
  rcases leastPos_at ms xs with ⟨h1, _⟩ | ⟨k, h1, _, _, h4, _⟩
  · exact h1
  · rw [h k h1] at h4; cases h4
theorem leastPos_one (ms : List Bool) (xs : List Int) (K : Nat) (h1 : K < ms.length) (h2 : K < xs.length) (h3 : ms.getD K false = true) (h : ∀ j, j < ms.length → ms.getD j false = true → xs.getD K 0 ≤ xs.getD j 0 ∧ (xs.getD K 0 = xs.getD j 0 → K ≤ j)) : leastPos ms xs = K := by
  rcases leastPos_at ms xs with ⟨_, h5⟩ | ⟨k, k1, k2, k3, k4, k5⟩
  · rw [h5 K (by omega)] at h3; cases h3
  · obtain ⟨a1, a2⟩ := k5 K (by omega) h3
    obtain ⟨b1, b2⟩ := h k k1 k4
    have e : xs.getD K 0 = xs.getD k 0 := Int.le_antisymm b1 a1
    have := a2 e.symm
    have := b2 e
    rw [k3, show k = K by omega]

/-- May, from K on, up to i. -/
def mayTo (K N i : Nat) : List Bool := (List.range N).map fun j => decide (j = K ∨ (K ≤ j ∧ j < i))
theorem mayTo_length (K N i : Nat) : (mayTo K N i).length = N := by simp [mayTo]
theorem mayTo_get (K N i j : Nat) (h : j < N) : (mayTo K N i).getD j false = decide (j = K ∨ (K ≤ j ∧ j < i)) := by
  simp [mayTo, List.getD_eq_getElem?_getD, List.getElem?_map, List.getElem?_range h]
theorem mayTo_start (K N : Nat) : (List.replicate N false).set K true = mayTo K N K := by
  apply List.ext_getElem
  · simp [mayTo]
  · intro j h1 h2
    simp only [mayTo, List.getElem_set, List.getElem_map, List.getElem_range, List.getElem_replicate]
    by_cases h : K = j
    · subst h; simp
    · rw [if_neg h]; symm; rw [decide_eq_false_iff_not]; omega
theorem mayTo_set (K N i : Nat) (h : K ≤ i) : (mayTo K N i).set i true = mayTo K N (i + 1) := by
  apply List.ext_getElem
  · simp [mayTo]
  · intro j h1 h2
    simp only [mayTo, List.getElem_set, List.getElem_map, List.getElem_range]
    by_cases hj : i = j
    · subst hj; rw [if_pos rfl]; symm; rw [decide_eq_true_iff]; omega
    · rw [if_neg hj]; congr 1; apply propext; omega

set_option maxHeartbeats 4000000 in
set_option maxRecDepth 100000 in
theorem PickOne_walk (n k : Int) (vl : Value) (xs : List Int) (w : World) (hn : (Lit.int .i64 n).wf = true) (hk : (Lit.int .i64 k).wf = true) (hl : Rd w .i64 vl xs) (hw : ∀ n ∈ xs, (Lit.int .i64 n).wf = true) :
    Calls Try.prog 7 #[.int .i64 n, .int .i64 k, vl] w fun e w' => e = .returned (.bool true) ∧ Ext w w' := by
  obtain ⟨Al, cl, rfl⟩ := hl.shape
  have hxl : xs.length ≤ maxLen := by obtain ⟨A, c, he, h1, h2, _⟩ := hl; omega
  unfold maxLen at hxl
  have H := Lib.hid hl
  have Hxs := Lib.hid hw
  have Hn := Lib.hid (bounds_i64 hn)
  have Hk := Lib.hid (bounds_i64 hk)
  obtain ⟨f, hf⟩ : ∃ f : Nat → Int, f = fun j => xs.getD j 0 := ⟨_, rfl⟩
  have Hf := Lib.hid hf
  clear hl hw hn hk hf
  obtain ⟨m, hm⟩ : ∃ m : Nat, n % 20 = m := ⟨(n % 20).toNat, by omega⟩
  have hm20 : m < 20 := by omega
  have Hm := Lib.hid hm
  clear hm
  go_enter Try.func7, Try.ntmps7
  go_wp2_with fail
  refine (known15_calls w).mono ?_
  rintro e w1 ⟨rfl, hE1⟩
  have hw1 := hE1.size
  go_wp2_with fail
  refine (within_calls n 20 w1 (by omega) (by omega) Hn.out).mono ?_
  rintro e w' ⟨rfl, rfl⟩
  rw [Hm.out]
  go_wp2_with fail
  obtain ⟨N, hN⟩ : ∃ N : Nat, (1 : Int) + m = N := ⟨1 + m, by omega⟩
  have hN1 : 1 ≤ N := by omega
  have hN20 : N ≤ 20 := by omega
  rw [hN]
  clear hN Hm hm20
  refine (within_calls k N w1 (by omega) (by omega) Hk.out).mono ?_
  rintro e w' ⟨rfl, rfl⟩
  have hk1 := Int.emod_nonneg k (b := (N : Int)) (by omega)
  have hk2 := Int.emod_lt_of_pos k (b := (N : Int)) (by omega)
  obtain ⟨K, hK⟩ : ∃ K : Nat, k % N = K := ⟨(k % N).toNat, by omega⟩
  rw [hK] at hk2 ⊢
  have hKN : K < N := by omega
  clear hk1 hk2 hK
  go_wp2_with fail
  obtain ⟨B0, hB0⟩ : ∃ B0, w.heap.size = B0 := ⟨_, rfl⟩
  rw [hB0] at hw1
  refine wp_region_lives mixed Ext [[0], [1], [2], [3], [4, 1], [5, 3]]
      [.val _ (· = .int .i64 N),
       .one _ (fun v w' => ∃ g, v = .slice (some ⟨g, 0, none⟩) N N ∧ OwnB w' B0 4 v (List.replicate N false)) (fun _ _ _ hE ⟨g, h1, h2⟩ => ⟨g, h1, ownsRow.ext h2 hE⟩),
       .val _ (· = .int .i64 N),
       .one _ (fun v w' => ∃ g, v = .slice (some ⟨g, 0, none⟩) N N ∧ Own w' B0 3 .i64 v (List.replicate N 0)) (fun _ _ _ hE ⟨g, h1, h2⟩ => ⟨g, h1, ownsRow.ext h2 hE⟩),
       .same _,
       .same _]
      Ext.refl (fun _ _ _ h k => h.trans k) (by kernel_rfl) (by kernel_rfl) ?steps ?post
  case steps =>
    refine ⟨?_, ?_, ?_, ?_, ?_, ?_, trivial⟩
    · refine fact_pure Ext.refl fun σ w hE hold hk => ?_
      have h0 : σ 0 = .int .i64 N := hold 0 (by kernel_rfl)
      exact ⟨rfl, _, op_move rfl, h0⟩
    · intro σ w hE hold hk
      have h20 : σ 20 = .int .i64 N := hk.1
      obtain ⟨w', hr, hO, hE'⟩ := run_make_bools (P := Try.prog) (w := w) 25 4 1 Try.underlying25 infoBool .i64 .i64 N (by omega) (by omega)
      exact ⟨rfl, Does.ok (op_make rfl h20 h20 hr) ⟨hE', _, rfl, ownsRow.base hO (Nat.le_trans hw1 (Ext.of_drew hE).size)⟩⟩
    · refine fact_pure Ext.refl fun σ w hE hold hk => ?_
      have h0 : σ 0 = .int .i64 N := hold 0 (by kernel_rfl)
      exact ⟨rfl, _, op_move rfl, h0⟩
    · intro σ w hE hold hk
      have h22 : σ 22 = .int .i64 N := hk.1
      obtain ⟨w', hr, hO, hE'⟩ := run_make_nums (P := Try.prog) (w := w) 22 3 .i64 8 Try.underlying22 infoI64 .i64 .i64 N (by omega) (by omega)
      exact ⟨rfl, Does.ok (op_make rfl h22 h22 hr) ⟨hE', _, rfl, ownsRow.base hO (Nat.le_trans hw1 (Ext.of_drew hE).size)⟩⟩
    · refine fact_pure Ext.refl fun σ w hE hold hk => ?_
      have h21 : (fun v w' => ∃ g, v = .slice (some ⟨g, 0, none⟩) N N ∧ OwnB w' B0 4 v (List.replicate N false)) (σ 21) w := hk.1
      exact ⟨rfl, _, op_assign rfl, rfl⟩
    · refine fact_pure Ext.refl fun σ w hE hold hk => ?_
      have h23 : (fun v w' => ∃ g, v = .slice (some ⟨g, 0, none⟩) N N ∧ Own w' B0 3 .i64 v (List.replicate N 0)) (σ 23) w := hk.1
      exact ⟨rfl, _, op_assign rfl, rfl⟩
  case post =>
    intro σ w3 hE3 hL
    have h21 : (fun v w' => ∃ g, v = .slice (some ⟨g, 0, none⟩) N N ∧ OwnB w' B0 4 v (List.replicate N false)) (σ 21) w3 := hL.2.1
    have h23 : (fun v w' => ∃ g, v = .slice (some ⟨g, 0, none⟩) N N ∧ Own w' B0 3 .i64 v (List.replicate N 0)) (σ 23) w3 := hL.2.2.2.1
    have h7 : σ 7 = σ 21 := hL.2.2.2.2.1
    have h8 : σ 8 = σ 23 := hL.2.2.2.2.2.1
    clear hL
    simp only [putAll, List.map_cons, List.map_nil, List.zip_cons_cons, List.zip_nil_right, List.foldl_cons, List.foldl_nil, Act.put, Option.getD_some, List.setIfInBounds_toArray, List.set_cons_zero, List.set_cons_succ]
    rw [h7]; clear h7
    rw [h8]; clear h8
    subst hB0
    obtain ⟨gm, rfl', hM⟩ := h21
    obtain ⟨ge, rfl'', hV⟩ := h23
    rw [rfl'] at hM ⊢
    rw [rfl''] at hV ⊢
    have hE := hE1.trans (Ext.of_drew hE3)
    have hne := apart_rows hM hV (by decide)
    have HM := Lib.hid hM
    have HV := Lib.hid hV
    clear rfl' rfl'' hM hV hE3 hE1 hw1
    have tok : True := trivial
    go_wp2_with (at_make; have _t := tok; clear _t; refine wpList_make_nums rfl _ _ 22 3 .i64 8 rfl Try.underlying22 infoI64 _ _ _ _ N rfl rfl rfl rfl (by omega) (by omega) ?_; intro w4 hO4 hE4; clear tok)
    obtain ⟨gn, hgn⟩ : ∃ gn, w3.heap.size = gn := ⟨_, rfl⟩
    rw [hgn] at hO4 ⊢
    have hn1 : gm < gn := hgn ▸ (HM.out.lt gm rfl).2
    have hn2 : ge < gn := hgn ▸ (HV.out.lt ge rfl).2
    have hwn : w.heap.size ≤ gn := hgn ▸ hE.size
    have hwm : w.heap.size ≤ gm := (HM.out.lt gm rfl).1
    have hwe : w.heap.size ≤ ge := (HV.out.lt ge rfl).1
    have HM4 := Lib.hid (ownsRow.ext HM.out hE4)
    have HV4 := Lib.hid (ownsRow.ext HV.out hE4)
    have HN4 := Lib.hid (ownsRow.base hO4 hwn)
    have hE5 := hE.trans hE4
    clear hgn hO4 hE4 hE HM HV
    go_loopw [10] (fun iv wr => ∃ i : Nat, i ≤ N ∧ iv = .int .i64 i ∧ OwnB wr w.heap.size 4 (.slice (some ⟨gm, 0, none⟩) N N) (List.replicate N false) ∧ Own wr w.heap.size 3 .i64 (.slice (some ⟨ge, 0, none⟩) N N) (fillTo 0 (fun _ => 7) N i) ∧ Own wr w.heap.size 3 .i64 (.slice (some ⟨gn, 0, none⟩) N N) (fillTo 0 f N i) ∧ Ext w wr) (fun iv wr => N - (intOf iv).toNat)
    case atStart => exact ⟨0, Nat.zero_le _, rfl, HM4.out, by rw [fillTo_zero]; exact HV4.out, by rw [fillTo_zero]; exact HN4.out, hE5⟩
    case round =>
      clear hE5 HM4 HV4 HN4
      obtain ⟨i, hi, rfl, hM, hV, hO, hE⟩ := hrel
      have HM := Lib.hid hM
      have HV := Lib.hid hV
      have HO := Lib.hid hO
      clear hM hV hO
      by_cases hlt : i < N
      · obtain ⟨c1, c2⟩ := Own.at HV.out i (by rw [fillTo_length]; exact hlt)
        have HV5 := Lib.hid (show Own (wr.setCell ⟨ge, i, none⟩ (.int .i64 7)) w.heap.size 3 .i64 (.slice (some ⟨ge, 0, none⟩) N N) (fillTo 0 (fun _ => 7) N (i + 1)) by rw [← fillTo_set]; exact Own.store HV.out (fillTo_length ..).symm i 7)
        have HM5 := Lib.hid (ownsRow.other (a := ⟨ge, i, none⟩) HM.out hne (.int .i64 7))
        have HO5 := Lib.hid (ownsRow.other (a := ⟨ge, i, none⟩) HO.out (Nat.ne_of_gt hn2) (.int .i64 7))
        obtain ⟨d1, d2⟩ := Own.at HO5.out i (by rw [fillTo_length]; exact hlt)
        have hE5 : Ext w (wr.setCell ⟨ge, i, none⟩ (.int .i64 7)) := hE.set hwe _
        by_cases hx : i < xs.length
        · obtain ⟨bl, offl, cl', he', hcl, hclm, hcelll⟩ := Rd.pos (H.out.ext hE5) (by omega)
          injection he' with e1 e2 e3
          subst e1 e3
          unfold maxLen at hclm
          have e2 := hcelll i hx
          have hfi : f i = xs.getD i 0 := by rw [Hf.out]
          obtain ⟨q, hqq⟩ : ∃ q, xs.getD i 0 = q := ⟨_, rfl⟩
          rw [hqq] at e2 hfi
          have Hfi := Lib.hid hfi
          clear hcelll hqq hfi
          go_wp2_with fail
          go_roundw
          case rel => exact ⟨i + 1, by omega, by go_num, ownsRow.other (a := ⟨gn, i, none⟩) HM5.out (Nat.ne_of_lt hn1) _, ownsRow.other (a := ⟨gn, i, none⟩) HV5.out (Nat.ne_of_lt hn2) _, by rw [← fillTo_set, Hfi.out]; exact Own.store HO5.out (fillTo_length ..).symm i _, hE5.set hwn _⟩
          case measure => simp [intOf]; omega
        · have hfi : f i = 0 := by rw [Hf.out]; simp [List.getD_eq_getElem?_getD, List.getElem?_eq_none (Nat.le_of_not_lt hx)]
          have Hfi := Lib.hid hfi
          clear hfi
          go_wp2_with fail
          go_roundw
          case rel => exact ⟨i + 1, by omega, by go_num, HM5.out, HV5.out, by rw [fillTo_same _ _ _ _ Hfi.out]; exact HO5.out, hE5⟩
          case measure => simp [intOf]; omega
      · obtain rfl : i = N := by omega
        obtain ⟨ys, hys⟩ : ∃ ys, fillTo 0 f i i = ys := ⟨_, rfl⟩
        obtain ⟨es, hes⟩ : ∃ es, fillTo 0 (fun _ => (7 : Int)) i i = es := ⟨_, rfl⟩
        have hyl : ys.length = i := by rw [← hys, fillTo_length]
        have hel : es.length = i := by rw [← hes, fillTo_length]
        have hev : ∀ j, j < i → es.getD j 0 = 7 := fun j hj => by rw [← hes, fillTo_get _ _ _ _ _ hj, if_pos hj]
        have hyw : ∀ n ∈ ys, (Lit.int .i64 n).wf = true := by
          intro n hn
          rw [← hys] at hn
          obtain ⟨j, hj, rfl⟩ := List.mem_map.1 hn
          rw [if_pos (List.mem_range.1 hj), Hf.out]
          show (Lit.int .i64 (xs.getD j 0)).wf = true
          rw [List.getD_eq_getElem?_getD]
          by_cases h : j < xs.length
          · rw [List.getElem?_eq_getElem h]; exact Hxs.out _ (List.getElem_mem h)
          · rw [List.getElem?_eq_none (by omega)]; decide
        have hew : ∀ n ∈ es, (Lit.int .i64 n).wf = true := by
          intro n hn
          rw [← hes] at hn
          obtain ⟨j, hj, rfl⟩ := List.mem_map.1 hn
          rw [if_pos (List.mem_range.1 hj)]
          show (Lit.int .i64 7).wf = true
          decide
        rw [hys] at HO
        rw [hes] at HV
        have Hyl := Lib.hid hyl
        have Hel := Lib.hid hel
        have Hev := Lib.hid hev
        have Hyw := Lib.hid hyw
        have Hew := Lib.hid hew
        clear hys hes hyl hel hev hyw hew
        have HN0 : Hid (∀ wk, Ext wr wk → Two wk (.slice (some ⟨gm, 0, none⟩) i i) (List.replicate i false) (.slice (some ⟨gn, 0, none⟩) i i) ys) := Lib.hid fun wk h => ⟨RdC.ext (ownsRow.reads HM.out) h, RdC.ext (ownsRow.reads HO.out) h⟩
        have HL0 := Lib.hid (leastPos_none (List.replicate i false) ys (fun j hj => by simp at hj; simp [List.getD_eq_getElem?_getD, hj]))
        have HC0 := Lib.hid (show coldF (List.replicate i false) ys 1099511627776 = -1 by rw [coldF, if_pos (.inl (by rw [HL0.out]; decide))])
        go_wp2_with fail
        refine (Next_calls _ _ _ _ wr (HN0.out wr (Ext.refl _))).mono ?_
        rw [HL0.out]
        rintro e w5 ⟨rfl, hE5⟩
        go_wp2_with fail
        refine (Oldest_calls _ _ _ _ w5 (HN0.out w5 hE5)).mono ?_
        rw [HL0.out]
        rintro e w6 ⟨rfl, hE6⟩
        have hE6 := hE5.trans hE6
        clear hE5
        go_wp2_with fail
        refine (Cold_calls _ _ _ _ _ w6 (HN0.out w6 hE6) Hyw.out (by decide) (by decide)).mono ?_
        rw [HC0.out]
        rintro e w7 ⟨rfl, hE7⟩
        have hE7 := hE6.trans hE7
        have HM7 := Lib.hid (ownsRow.ext HM.out hE7)
        have HV7 := Lib.hid (ownsRow.ext HV.out hE7)
        have HO7 := Lib.hid (ownsRow.ext HO.out hE7)
        have hEw7 := hE.trans hE7
        clear hE6 hE7 HN0 HL0 HC0 HM HV HO hE
        obtain ⟨c1, c2⟩ := OwnB.at HM7.out K (by simp; omega)
        have HM8 := Lib.hid (OwnB.store HM7.out (List.length_replicate ..).symm K true)
        have HV8 := Lib.hid (ownsRow.other (a := ⟨gm, K, none⟩) HV7.out (Ne.symm hne) (.bool true))
        have HO8 := Lib.hid (ownsRow.other (a := ⟨gm, K, none⟩) HO7.out (Nat.ne_of_gt hn1) (.bool true))
        have hE8 : Ext w (w7.setCell ⟨gm, K, none⟩ (.bool true)) := hEw7.set hwm _
        rw [mayTo_start] at HM8
        go_wp2_with fail
        obtain ⟨w8, hw8⟩ : ∃ w8, w7.setCell ⟨gm, K, none⟩ (.bool true) = w8 := ⟨_, rfl⟩
        rw [hw8] at HM8 HV8 HO8 hE8 ⊢
        have HL1 := Lib.hid (leastPos_one (mayTo K i K) ys K (by rw [mayTo_length]; omega) (by rw [Hyl.out]; omega) (by rw [mayTo_get _ _ _ _ (by omega)]; simp) (fun j hj hm => by
          rw [mayTo_length] at hj
          rw [mayTo_get _ _ _ _ (by omega)] at hm
          simp only [decide_eq_true_eq] at hm
          obtain rfl : j = K := by omega
          exact ⟨Int.le_refl _, fun _ => Nat.le_refl _⟩))
        have HN1 : Hid (∀ wk, Ext w8 wk → Two wk (.slice (some ⟨gm, 0, none⟩) i i) (mayTo K i K) (.slice (some ⟨gn, 0, none⟩) i i) ys) := Lib.hid fun wk h => ⟨RdC.ext (ownsRow.reads HM8.out) h, RdC.ext (ownsRow.reads HO8.out) h⟩
        clear hw8 c1 c2 HM7 HV7 HO7 hEw7
        refine (Next_calls _ _ _ _ w8 (HN1.out w8 (Ext.refl _))).mono ?_
        rw [HL1.out]
        rintro e w9 ⟨rfl, hE9⟩
        go_wp2_with fail
        refine (Oldest_calls _ _ _ _ w9 (HN1.out w9 hE9)).mono ?_
        rw [HL1.out]
        rintro e w10 ⟨rfl, hE10⟩
        have hE10 := hE9.trans hE10
        have HM10 := Lib.hid (ownsRow.ext HM8.out hE10)
        have HV10 := Lib.hid (ownsRow.ext HV8.out hE10)
        have hEw10 := hE8.trans hE10
        clear hE9 hE10 HN1 HL1 HM8 HV8 HO8 hE8
        go_wp2_with fail
        go_loopw [11] (fun jv wr => ∃ j : Nat, K ≤ j ∧ j ≤ i ∧ jv = .int .i64 j ∧ OwnB wr w.heap.size 4 (.slice (some ⟨gm, 0, none⟩) i i) (mayTo K i j) ∧ Own wr w.heap.size 3 .i64 (.slice (some ⟨ge, 0, none⟩) i i) es ∧ Ext w wr) (fun jv wr => i - (intOf jv).toNat)
        case atStart => exact ⟨K, Nat.le_refl _, by omega, rfl, HM10.out, HV10.out, hEw10⟩
        case round =>
          clear hEw10 HM10 HV10
          obtain ⟨j, hKj, hj, rfl, hM, hV, hE⟩ := hrel
          have HM := Lib.hid hM
          have HV := Lib.hid hV
          clear hM hV
          by_cases hjt : j < i
          · obtain ⟨c1, c2⟩ := OwnB.at HM.out j (by rw [mayTo_length]; exact hjt)
            go_wp2_with fail
            go_roundw
            case rel => exact ⟨j + 1, by omega, by omega, by go_num, by rw [← mayTo_set _ _ _ hKj]; exact OwnB.store HM.out (mayTo_length ..).symm j true, ownsRow.other (a := ⟨gm, j, none⟩) HV.out (Ne.symm hne) (.bool true), hE.set hwm _⟩
            case measure => simp [intOf]; omega
          · obtain rfl : j = i := by omega
            have HN2 : Hid (∀ wk, Ext wr wk → Two wk (.slice (some ⟨gm, 0, none⟩) j j) (mayTo K j j) (.slice (some ⟨ge, 0, none⟩) j j) es) := Lib.hid fun wk h => ⟨RdC.ext (ownsRow.reads HM.out) h, RdC.ext (ownsRow.reads HV.out) h⟩
            have HL2 := Lib.hid (leastPos_one (mayTo K j j) es K (by rw [mayTo_length]; omega) (by rw [Hel.out]; omega) (by rw [mayTo_get _ _ _ _ (by omega)]; simp) (fun q hq hm => by
              rw [mayTo_length] at hq
              rw [mayTo_get _ _ _ _ (by omega)] at hm
              simp only [decide_eq_true_eq] at hm
              rw [Hev.out K (by omega), Hev.out q (by omega)]
              exact ⟨Int.le_refl _, fun _ => by omega⟩))
            have HC10 := Lib.hid (show coldF (mayTo K j j) es 10 = K by rw [coldF, HL2.out, Int.toNat_natCast, Hev.out K (by omega), if_neg (by omega)])
            have HC9 := Lib.hid (show coldF (mayTo K j j) es 9 = -1 by rw [coldF, HL2.out, Int.toNat_natCast, Hev.out K (by omega), if_pos (by omega)])
            go_wp2_with fail
            refine (Next_calls _ _ _ _ wr (HN2.out wr (Ext.refl _))).mono ?_
            rw [HL2.out]
            rintro e w11 ⟨rfl, hE11⟩
            go_wp2_with fail
            refine (Oldest_calls _ _ _ _ w11 (HN2.out w11 hE11)).mono ?_
            rw [HL2.out]
            rintro e w12 ⟨rfl, hE12⟩
            have hE12 := hE11.trans hE12
            clear hE11
            go_wp2_with fail
            refine (Cold_calls _ _ _ _ _ w12 (HN2.out w12 hE12) Hew.out (by decide) (by decide)).mono ?_
            rw [HC10.out]
            rintro e w13 ⟨rfl, hE13⟩
            have hE13 := hE12.trans hE13
            clear hE12
            go_wp2_with fail
            refine (Cold_calls _ _ _ _ _ w13 (HN2.out w13 hE13) Hew.out (by decide) (by decide)).mono ?_
            rw [HC9.out]
            rintro e w14 ⟨rfl, hE14⟩
            have hfin := hE.trans (hE13.trans hE14)
            clear hE13 hE14
            go_wp2_with fail
            go_ret
            exact ⟨rfl, hfin⟩
end Go.Proofs.Ytgmndmfcacadcaa
