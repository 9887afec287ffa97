/-
  Contracts of what is taken, in both programs.
-/
import Derived.Test.YtgmndmfcacadcaaPickL
import Derived.OpenShut
import Derived.Deep.QuietTactic
import Derived.BigQuiet
import Derived.WalkSmall
set_option linter.unusedSimpArgs false
set_option linter.unusedVariables false
namespace Go.Proofs.Ytgmndmfcacadcaa
open Go.RowKit

theorem Ext.drewN {a b : World} (h : Ext a b) (n : Nat) : Ext a (b.drewN n) := below_drewN h n

/-- A number from 0 to n - 1. -/
theorem within_calls (a n : Int) (w : World) (hn : 0 < n) (hn2 : n ≤ 1000000) (ha : -9223372036854775808 ≤ a ∧ a ≤ 9223372036854775807) :
    Calls Try.prog 9 #[.int .i64 a, .int .i64 n] w fun e w' => e = .returned (.int .i64 (a % n)) ∧ w = w' := by
  have hne : (n == 0) = false := beq_eq_false_iff_ne.2 (by omega)
  have hr : -1000000 ≤ a.tmod n ∧ a.tmod n ≤ 1000000 := by
    have h1 := Int.tmod_lt_of_pos a hn
    have h2 : -n < a.tmod n := by
      rcases Int.le_total 0 a with h | h
      · have := Int.tmod_nonneg n h; omega
      · have h3 := Int.tmod_lt_of_pos (-a) hn
        rw [Int.neg_tmod] at h3
        omega
    omega
  have hfin : a % n = if a.tmod n < 0 then a.tmod n + n else a.tmod n := by
    rw [Int.emod_eq_tmod]
    have habs : (n.natAbs : Int) = n := Int.natAbs_of_nonneg (by omega)
    by_cases h : a.tmod n < 0
    · have hna : ¬ (0 ≤ a ∨ n ∣ a) := by
        rintro (h' | h')
        · have := Int.tmod_nonneg n h'; omega
        · have := Int.tmod_eq_zero_of_dvd h'; omega
      rw [if_neg hna, if_pos h, habs]
    · have hna : 0 ≤ a ∨ n ∣ a := by
        rcases Int.le_total 0 a with h' | h'
        · exact .inl h'
        · refine .inr (Int.dvd_of_tmod_eq_zero ?_)
          have := Int.tmod_nonneg n (show 0 ≤ -a by omega)
          rw [Int.neg_tmod] at this
          omega
      rw [if_pos hna, if_neg h]
      simp
  obtain ⟨a1, a2⟩ := ha
  obtain ⟨r1, r2⟩ := hr
  have Hfin := Lib.hid hfin
  clear hfin
  by_cases h : a.tmod n < 0
  · go_enter Try.func9, Try.ntmps9
    go_wp2_with fail
    go_ret
    exact ⟨by rw [Hfin.out, if_pos (by omega)]; first | rfl | (simp [wrap64]; done) | (simp [wrap64]; omega), rfl⟩
  · go_enter Try.func9, Try.ntmps9
    go_wp2_with fail
    go_ret
    exact ⟨by rw [Hfin.out, if_neg (by omega)]; rfl, rfl⟩


/-- The two slices of a call. -/
structure Two (w : World) (vm : Value) (ms : List Bool) (vl : Value) (xs : List Int) : Prop where
  may : RdB w vm ms
  row : Rd w .i64 vl xs
theorem Two.ext {w w' : World} {vm vl : Value} {ms : List Bool} {xs : List Int} (h : Two w vm ms vl xs) (hE : Ext w w') : Two w' vm ms vl xs := ⟨h.may.ext hE, h.row.ext hE⟩

set_option maxHeartbeats 400000 in
theorem allowed_calls (vm : Value) (ms : List Bool) (vl : Value) (xs : List Int) (w : World) (h : Two w vm ms vl xs) :
    Calls Try.prog 17 #[vm, vl] w fun e w' => ∃ Bm Bl, e = .returned (.func (.func 19) #[] #[.pointer (some ⟨Bm, 0, none⟩), .pointer (some ⟨Bl, 0, none⟩)]) ∧ Both w' Bm Bl ms xs ∧ Ext w w' := by
  obtain ⟨Am, cm, rfl⟩ := h.may.shape
  obtain ⟨Al, cl, rfl⟩ := h.row.shape
  have H := Lib.hid h
  clear h
  go_enter Try.func17, Try.ntmps17
  go_wp2_with fail
  go_ret
  have bM := Boxed.new w 25 (.slice Am ms.length cm)
  have bL := Boxed.new (w.alloc (.cells #[.slice Am ms.length cm] 25)) 22 (.slice Al xs.length cl)
  have hE : Ext w ((w.alloc (.cells #[.slice Am ms.length cm] 25)).alloc (.cells #[.slice Al xs.length cl] 22)) := ((Ext.refl w).alloc _).alloc _
  rw [World.size_alloc] at bL
  exact ⟨_, _, rfl, ⟨_, _, (bM.alloc _).cell, bL.cell, H.out.may.ext hE, H.out.row.ext hE⟩, hE⟩

theorem least_calls (Bm Bl : Nat) (ms : List Bool) (xs : List Int) (w : World) (hA : Both w Bm Bl ms xs) :
    Calls Try.prog 16 #[.func (.func 19) #[] #[.pointer (some ⟨Bm, 0, none⟩), .pointer (some ⟨Bl, 0, none⟩)]] w fun e w' => e = .returned (.int .i64 (leastPos ms xs)) ∧ Ext w w' :=
  (callsIn_wide (n := 3)).1 (least_in Fence.wide 3 trivial trivial rfl (by decide) Bm Bl ms xs w hA)

set_option maxHeartbeats 400000 in
theorem Next_calls (vm : Value) (ms : List Bool) (vl : Value) (xs : List Int) (w : World) (h : Two w vm ms vl xs) :
    Calls Try.prog 10 #[vm, vl] w fun e w' => e = .returned (.int .i64 (leastPos ms xs)) ∧ Ext w w' := by
  have H := Lib.hid h
  clear h
  go_enter Try.func10, Try.ntmps10
  go_wp2_with fail
  refine (allowed_calls vm ms vl xs w H.out).mono ?_
  rintro e w1 ⟨Bm, Bl, rfl, hA, hE1⟩
  have HA := Lib.hid hA
  clear hA
  go_wp2_with fail
  refine (least_calls Bm Bl ms xs w1 HA.out).mono ?_
  rintro e w2 ⟨rfl, hE2⟩
  go_wp2_with fail
  go_ret
  exact ⟨rfl, hE1.trans hE2⟩

set_option maxHeartbeats 400000 in
theorem Oldest_calls (vm : Value) (ms : List Bool) (vl : Value) (xs : List Int) (w : World) (h : Two w vm ms vl xs) :
    Calls Try.prog 13 #[vm, vl] w fun e w' => e = .returned (.int .i64 (leastPos ms xs)) ∧ Ext w w' := by
  have H := Lib.hid h
  clear h
  go_enter Try.func13, Try.ntmps13
  go_wp2_with fail
  refine (allowed_calls vm ms vl xs w H.out).mono ?_
  rintro e w1 ⟨Bm, Bl, rfl, hA, hE1⟩
  have HA := Lib.hid hA
  clear hA
  go_wp2_with fail
  refine (least_calls Bm Bl ms xs w1 HA.out).mono ?_
  rintro e w2 ⟨rfl, hE2⟩
  go_wp2_with fail
  go_ret
  exact ⟨rfl, hE1.trans hE2⟩

/-- What is far from the other one. -/
def coldF (ms : List Bool) (xs : List Int) (o : Int) : Int := if leastPos ms xs < 0 ∨ o - 3 < xs.getD (leastPos ms xs).toNat 0 then -1 else leastPos ms xs

theorem leastPos_at (ms : List Bool) (xs : List Int) : (leastPos ms xs = -1 ∧ ∀ j, j < min ms.length xs.length → ms.getD j false = false) ∨
    ∃ k : Nat, k < ms.length ∧ k < xs.length ∧ leastPos ms xs = (k : Int) ∧ ms.getD k false = true ∧ ∀ j, j < min ms.length xs.length → ms.getD j false = true → xs.getD k 0 ≤ xs.getD j 0 ∧ (xs.getD k 0 = xs.getD j 0 → k ≤ j) := by
  rcases leastF_at ms xs (min ms.length xs.length) with ⟨h1, _, h3⟩ | ⟨k, h1, h2, h3, h4⟩
  · exact .inl ⟨h1, h3⟩
  · exact .inr ⟨k, by omega, by omega, by rw [leastPos, h2], h3, h4⟩

set_option maxHeartbeats 800000 in
theorem Cold_calls (vm : Value) (ms : List Bool) (vl : Value) (xs : List Int) (o : Int) (w : World) (h : Two w vm ms vl xs) (hw : ∀ n ∈ xs, (Lit.int .i64 n).wf = true) (ho : 0 ≤ o) (ho2 : o ≤ 9000000000000000000) :
    Calls Try.prog 11 #[vm, vl, .int .i64 o] w fun e w' => e = .returned (.int .i64 (coldF ms xs o)) ∧ Ext w w' := by
  have H := Lib.hid h
  clear h
  go_enter Try.func11, Try.ntmps11
  go_wp2_with fail
  refine (allowed_calls vm ms vl xs w H.out).mono ?_
  rintro e w1 ⟨Bm, Bl, rfl, hA, hE1⟩
  have HA := Lib.hid hA
  clear hA
  go_wp2_with fail
  refine (least_calls Bm Bl ms xs w1 HA.out).mono ?_
  rintro e w2 ⟨rfl, hE2⟩
  have hE := hE1.trans hE2
  rcases leastPos_at ms xs with ⟨h1, _⟩ | ⟨k, hk1, hk2, h1, _⟩
  · have hc : coldF ms xs o = -1 := by rw [coldF, if_pos (.inl (by rw [h1]; decide))]
    have Hc := Lib.hid hc
    rw [h1]
    clear h1 hc
    go_wp2_with fail
    go_ret
    exact ⟨by rw [Hc.out]; rfl, hE⟩
  · obtain ⟨b, off, cap, rfl, hcap, hcapm, hcells⟩ := Rd.pos (H.out.row.ext hE) (by omega)
    have hcell := hcells k hk2
    have hq := bounds_i64 (hw (xs.getD k 0) (by rw [List.getD_eq_getElem?_getD, List.getElem?_eq_getElem hk2]; exact List.getElem_mem _))
    have hc : coldF ms xs o = if o - 3 < xs.getD k 0 then -1 else (k : Int) := by
      rw [coldF, h1, Int.toNat_natCast]
      by_cases h : o - 3 < xs.getD k 0
      · rw [if_pos h, if_pos (.inr h)]
      · rw [if_neg h, if_neg (by rintro (a | a) <;> omega)]
    obtain ⟨q, hqq⟩ : ∃ q, xs.getD k 0 = q := ⟨_, rfl⟩
    rw [hqq] at hcell hq hc
    obtain ⟨hq1, hq2⟩ := hq
    have Hc := Lib.hid hc
    rw [h1]
    unfold maxLen at hcapm
    clear h1 hcells hqq hc hw
    by_cases hqo : o < q
    · go_wp2_with fail
      go_ret
      exact ⟨by rw [Hc.out, if_pos (by omega)]; rfl, hE⟩
    · have hs : IntKind.u64.wrap (o - IntKind.u64.wrap q) = o - q := by simp only [IntKind.wrap_u64]; omega
      have Hs := Lib.hid hs
      clear hs
      go_wp2_with fail
      · rename_i h
        rw [Hs.out] at h
        go_ret
        exact ⟨by rw [Hc.out, if_pos (by omega)]; rfl, hE⟩
      · rename_i h
        rw [Hs.out] at h
        go_ret
        exact ⟨by rw [Hc.out, if_neg (by omega)]; rfl, hE⟩

set_option maxHeartbeats 1600000 in
/-- The document's. -/
theorem refleast_calls (vm : Value) (ms : List Bool) (vl : Value) (xs : List Int) (w : World) (h : Two w vm ms vl xs) :
    Calls Try.prog 18 #[vm, vl] w fun e w' => e = .returned (.int .i64 (leastPos ms xs)) ∧ Ext w w' := by
  obtain ⟨Am, cm, rfl⟩ := h.may.shape
  obtain ⟨Al, cl, rfl⟩ := h.row.shape
  have hlm : ms.length ≤ maxLen := by obtain ⟨A, c, he, h1, h2, _⟩ := h.may; omega
  have hll : xs.length ≤ maxLen := by obtain ⟨A, c, he, h1, h2, _⟩ := h.row; omega
  unfold maxLen at hlm hll
  have H := Lib.hid h
  clear h
  obtain ⟨N, hN⟩ : ∃ N, min ms.length xs.length = N := ⟨_, rfl⟩
  have HN := Lib.hid hN
  have hNm : N ≤ ms.length := by omega
  have hNx : N ≤ xs.length := by omega
  have hNe : N = ms.length ∨ N = xs.length := by omega
  have hlp : leastPos ms xs = (leastF (allowedTo ms xs N)).1 := by rw [leastPos, hN]
  have Hlp := Lib.hid hlp
  clear hN hlp
  go_enter Try.func18, Try.ntmps18
  go_wp2_with fail
  go_loopw [5, 6] (fun kv iv wr => ∃ i : Nat, i ≤ N ∧ iv = .int .i64 i ∧ kv = .int .i64 (leastF (allowedTo ms xs i)).1 ∧ Ext w wr) (fun kv iv wr => N - (intOf iv).toNat)
  case atStart => exact ⟨0, Nat.zero_le _, rfl, rfl, Ext.refl w⟩
  case round =>
    obtain ⟨i, hi, rfl, rfl, hE⟩ := hrel
    by_cases hlt : i < N
    · obtain ⟨bm, offm, cm', he', hcm, hcmm, hcellm⟩ := RdB.pos (H.out.may.ext hE) (by omega)
      injection he' with e1 e2 e3
      subst e1 e3
      obtain ⟨bl, offl, cl', he', hcl, hclm, hcelll⟩ := Rd.pos (H.out.row.ext hE) (by omega)
      injection he' with e1 e2 e3
      subst e1 e3
      unfold maxLen at hcmm hclm
      have d1 := hcellm i (by omega)
      have d2 := hcelll i (by omega)
      have him : (i : Int) < ms.length := by omega
      have hix : (i : Int) < xs.length := by omega
      obtain ⟨q, hq⟩ : ∃ q, xs.getD i 0 = q := ⟨_, rfl⟩
      obtain ⟨mb, hmb⟩ : ∃ mb, ms.getD i false = mb := ⟨_, rfl⟩
      rw [hq] at d2
      rw [hmb] at d1
      have Hq := Lib.hid hq
      have Hmb := Lib.hid hmb
      clear hq hmb
      cases mb with
      | false =>
        clear d2 hcellm hcelll
        generalize hK : (leastF (allowedTo ms xs i)).1 = K
        have HK := Lib.hid hK
        clear hK
        go_wp2_with fail
        go_quiet (fail)
        go_wp2_with fail
        go_roundw
        case rel => exact ⟨i + 1, by omega, by go_num, by rw [allowedTo_no ms xs i Hmb.out, HK.out], hE.drewN _⟩
        case measure => simp [intOf]; omega
      | true =>
        have hnew : allowedTo ms xs (i + 1) = allowedTo ms xs i ++ [(i, q)] := by rw [allowedTo_yes ms xs i Hmb.out, Hq.out]
        have hsn := leastF_snoc (allowedTo ms xs i) (i, q)
        rw [← hnew] at hsn
        rcases leastF_at ms xs i with ⟨h1, h2, _⟩ | ⟨k, hk, h2, _, _⟩
        · rw [if_pos (.inl (by rw [h1]; decide))] at hsn
          have Hsn := Lib.hid hsn
          rw [h1]
          clear d2 hcellm hcelll hnew hsn h1 h2
          go_wp2_with fail
          go_quiet (fail)
          go_wp2_with fail
          go_roundw
          case rel => exact ⟨i + 1, by omega, by go_num, by rw [Hsn.out], hE.drewN _⟩
          case measure => simp [intOf]; omega
        · have d3 := hcelll k (by omega)
          obtain ⟨p, hp⟩ : ∃ p, xs.getD k 0 = p := ⟨_, rfl⟩
          rw [hp] at d3 h2
          rw [h2] at hsn
          rw [h2]
          have Hsn := Lib.hid hsn
          have H2 := Lib.hid h2
          have hk0 : decide ((k : Int) < 0) = false := by simp
          have hkx : (k : Int) < xs.length := by omega
          clear hcellm hcelll hnew hsn h2 hp
          by_cases hqp : q < p
          · go_wp2_with fail
            go_quiet (fail)
            go_wp2_with fail
            go_roundw
            case rel => exact ⟨i + 1, by omega, by go_num, by rw [Hsn.out, if_pos (.inr hqp)], hE.drewN _⟩
            case measure => simp [intOf]; omega
          · have hqp2 : decide (q < p) = false := by simp; omega
            go_wp2_with fail
            go_quiet (fail)
            go_wp2_with fail
            go_roundw
            case rel => exact ⟨i + 1, by omega, by go_num, by rw [Hsn.out, if_neg (show ¬ ((k : Int) < 0 ∨ q < p) by omega)], hE.drewN _⟩
            case measure => simp [intOf]; omega
    · obtain rfl : i = N := by omega
      by_cases him : i < ms.length
      · have hix : ¬ i < xs.length := by omega
        go_wp2_with fail
        go_ret
        exact ⟨by rw [Hlp.out]; rfl, hE⟩
      · go_wp2_with fail
        go_ret
        exact ⟨by rw [Hlp.out]; rfl, hE⟩

set_option maxHeartbeats 400000 in
theorem refNext_calls (vm : Value) (ms : List Bool) (vl : Value) (xs : List Int) (w : World) (h : Two w vm ms vl xs) :
    Calls Try.prog 12 #[vm, vl] w fun e w' => e = .returned (.int .i64 (leastPos ms xs)) ∧ Ext w w' := by
  have H := Lib.hid h
  clear h
  go_enter Try.func12, Try.ntmps12
  go_wp2_with fail
  refine (refleast_calls vm ms vl xs w H.out).mono ?_
  rintro e w1 ⟨rfl, hE1⟩
  go_wp2_with fail
  go_ret
  exact ⟨rfl, hE1⟩

set_option maxHeartbeats 400000 in
theorem refOldest_calls (vm : Value) (ms : List Bool) (vl : Value) (xs : List Int) (w : World) (h : Two w vm ms vl xs) :
    Calls Try.prog 14 #[vm, vl] w fun e w' => e = .returned (.int .i64 (leastPos ms xs)) ∧ Ext w w' := by
  have H := Lib.hid h
  clear h
  go_enter Try.func14, Try.ntmps14
  go_wp2_with fail
  refine (refleast_calls vm ms vl xs w H.out).mono ?_
  rintro e w1 ⟨rfl, hE1⟩
  go_wp2_with fail
  go_ret
  exact ⟨rfl, hE1⟩

set_option maxHeartbeats 800000 in
theorem refCold_calls (vm : Value) (ms : List Bool) (vl : Value) (xs : List Int) (o : Int) (w : World) (h : Two w vm ms vl xs) (hw : ∀ n ∈ xs, (Lit.int .i64 n).wf = true) (ho : 0 ≤ o) (ho2 : o ≤ 9000000000000000000) :
    Calls Try.prog 15 #[vm, vl, .int .i64 o] w fun e w' => e = .returned (.int .i64 (coldF ms xs o)) ∧ Ext w w' := by
  have H := Lib.hid h
  clear h
  go_enter Try.func15, Try.ntmps15
  go_wp2_with fail
  refine (refleast_calls vm ms vl xs w H.out).mono ?_
  rintro e w2 ⟨rfl, hE⟩
  rcases leastPos_at ms xs with ⟨h1, _⟩ | ⟨k, hk1, hk2, h1, _⟩
  · have hc : coldF ms xs o = -1 := by rw [coldF, if_pos (.inl (by rw [h1]; decide))]
    have Hc := Lib.hid hc
    rw [h1]
    clear h1 hc
    go_wp2_with fail
    go_ret
    exact ⟨by rw [Hc.out]; rfl, hE⟩
  · obtain ⟨b, off, cap, rfl, hcap, hcapm, hcells⟩ := Rd.pos (H.out.row.ext hE) (by omega)
    have hcell := hcells k hk2
    have hc : coldF ms xs o = if o - 3 < xs.getD k 0 then -1 else (k : Int) := by
      rw [coldF, h1, Int.toNat_natCast]
      by_cases h : o - 3 < xs.getD k 0
      · rw [if_pos h, if_pos (.inr h)]
      · rw [if_neg h, if_neg (by rintro (a | a) <;> omega)]
    obtain ⟨q, hqq⟩ : ∃ q, xs.getD k 0 = q := ⟨_, rfl⟩
    rw [hqq] at hcell hc
    have Hc := Lib.hid hc
    rw [h1]
    unfold maxLen at hcapm
    clear h1 hcells hqq hc hw
    have h0 : ¬ o < -4611686018427387904 := by omega
    by_cases hqo : o - 3 < q
    · go_wp2_with fail
      go_ret
      exact ⟨by rw [Hc.out, if_pos hqo]; rfl, hE⟩
    · go_wp2_with fail
      go_ret
      exact ⟨by rw [Hc.out, if_neg (by omega)]; rfl, hE⟩

set_option maxHeartbeats 400000 in
theorem known15_calls (w : World) : Calls Try.prog 8 #[] w fun e w' => e = .returned (.bool true) ∧ Ext w w' := by
  have hn : ∀ w : World, Two w (.slice none 0 0) [] (.slice none 0 0) [] := fun w => ⟨⟨none, 0, rfl, Nat.le_refl _, Nat.zero_le _, fun h => absurd rfl h, fun _ => ⟨rfl, rfl⟩⟩, ⟨none, 0, rfl, Nat.le_refl _, Nat.zero_le _, fun h => absurd rfl h, fun _ => ⟨rfl, rfl⟩⟩⟩
  have hl0 : leastPos [] [] = -1 := by decide
  have hl1 : leastPos [false, true] [5, 6] = 1 := by decide
  have Hl0 := Lib.hid hl0
  have Hl1 := Lib.hid hl1
  have Hn := Lib.hid (hn w)
  clear hn hl0 hl1
  go_enter Try.func8, Try.ntmps8
  go_wp2_with fail
  refine (Next_calls _ [] _ [] w Hn.out).mono ?_
  rw [Hl0.out]
  rintro e w1 ⟨rfl, hE1⟩
  clear Hn Hl0
  go_wp2_with fail
  have h2 : Two ((w1.alloc (.cells #[.bool false, .bool true] 4)).alloc (.cells #[.int .i64 5, .int .i64 6] 3)) (.slice (some ⟨w1.heap.size, 0, none⟩) 2 2) [false, true] (.slice (some ⟨w1.heap.size + 1, 0, none⟩) 2 2) [5, 6] := by
    have a := rd_new (w := w1) #[.bool false, .bool true] 4 2 (by decide)
    have b := rd_new (w := w1.alloc (.cells #[.bool false, .bool true] 4)) #[.int .i64 5, .int .i64 6] 3 2 (by decide)
    rw [World.size_alloc] at b
    exact ⟨RdC.ext a ((Ext.refl _).alloc _), b⟩
  have H2 := Lib.hid h2
  clear h2
  refine (Next_calls _ _ _ _ _ H2.out).mono ?_
  rw [Hl1.out]
  rintro e w2 ⟨rfl, hE2⟩
  have hE := (((hE1.alloc _).alloc _).trans hE2)
  clear H2 Hl1 hE2 hE1
  go_wp2_with fail
  go_ret
  exact ⟨rfl, hE⟩
end Go.Proofs.Ytgmndmfcacadcaa
