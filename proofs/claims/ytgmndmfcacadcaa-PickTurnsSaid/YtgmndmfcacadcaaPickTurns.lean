/-
  The walk of the law PickTurns.
-/
import Derived.Test.YtgmndmfcacadcaaTurnF
set_option linter.unusedSimpArgs false
set_option linter.unusedVariables false
namespace Go.Proofs.Ytgmndmfcacadcaa
open Go.RowKit

theorem infoI64 : (Try.prog.info? 3).map (fun i => (i.zero, i.size, i.bytes)) = some (some (.int .i64 0), 1, 8) := by kernel_rfl
theorem infoBool : (Try.prog.info? 4).map (fun i => (i.zero, i.size, i.bytes)) = some (some (.bool false), 1, 1) := by kernel_rfl

set_option maxHeartbeats 4000000 in
set_option maxRecDepth 100000 in
theorem PickTurns_walk (n o : Int) (vl : Value) (xs : List Int) (w : World) (hn : (Lit.int .i64 n).wf = true) (ho : (Lit.int .i64 o).wf = true) (hl : Rd w .i64 vl xs) (hw : ∀ n ∈ xs, (Lit.int .i64 n).wf = true) :
    Calls Try.prog 3 #[.int .i64 n, .int .i64 o, vl] w fun e w' => e = .returned (.bool true) ∧ Ext w w' := by
  obtain ⟨Al, cl, rfl⟩ := hl.shape
  have hxl : xs.length ≤ maxLen := by obtain ⟨A, c, he, h1, h2, _⟩ := hl; omega
  unfold maxLen at hxl
  have H := Lib.hid hl
  have Hxs := Lib.hid hw
  have Hn := Lib.hid (bounds_i64 hn)
  have Ho := Lib.hid (bounds_i64 ho)
  obtain ⟨f, hf⟩ : ∃ f : Nat → Int, f = fun j => xs.getD j 0 % 5 := ⟨_, rfl⟩
  have hfr : ∀ j, 0 ≤ f j ∧ f j ≤ 4 := fun j => by
    rw [hf]
    show 0 ≤ xs.getD j 0 % 5 ∧ xs.getD j 0 % 5 ≤ 4
    omega
  have Hf := Lib.hid hf
  have Hfr := Lib.hid hfr
  clear hl hw hn ho hf hfr
  obtain ⟨m, hm⟩ : ∃ m : Nat, n % 12 = m := ⟨(n % 12).toNat, by omega⟩
  have hm20 : m < 12 := by omega
  have Hm := Lib.hid hm
  obtain ⟨r, hr⟩ : ∃ r : Nat, o % 100 = r := ⟨(o % 100).toNat, by omega⟩
  have hr100 : r < 100 := by omega
  have Hr := Lib.hid hr
  clear hm hr
  go_enter Try.func3, Try.ntmps3
  go_wp2_with fail
  refine (known15_calls w).mono ?_
  rintro e w1 ⟨rfl, hE1⟩
  go_wp2_with fail
  refine (within_calls n 12 w1 (by omega) (by omega) Hn.out).mono ?_
  rintro e w' ⟨rfl, rfl⟩
  rw [Hm.out]
  obtain ⟨N, hN⟩ : ∃ N : Nat, (1 : Int) + m = N := ⟨1 + m, by omega⟩
  have hN1 : 0 < N := by omega
  have hN20 : N ≤ 12 := by omega
  have HN := Lib.hid hN
  clear hN
  have tok : True := trivial
  go_wp2_with (at_make; rw [HN.out]; have _t := tok; clear _t; refine wpList_make_nums rfl _ _ 22 3 .i64 8 rfl Try.underlying22 infoI64 _ _ _ _ N rfl rfl rfl rfl (by omega) (by omega) ?_; intro w2 hO2 hE2; clear tok)
  obtain ⟨G, hG⟩ : ∃ G, w1.heap.size = G := ⟨_, rfl⟩
  rw [hG] at hO2 ⊢
  have hwG : w.heap.size ≤ G := hG ▸ hE1.size
  have HO2 := Lib.hid hO2
  have hE := hE1.trans hE2
  clear hG hO2 hE1 hE2 HN Hm hm20
  go_loopw [8, 9] (fun tv iv wr => ∃ i : Nat, i ≤ N ∧ i ≤ xs.length ∧ iv = .int .i64 i ∧ (∃ T : Int, tv = .int .i64 T ∧ 0 ≤ T ∧ T ≤ 4 ∧ (T = 0 ∨ ∃ j, j < i ∧ T = f j)) ∧ Own wr w.heap.size 3 .i64 (.slice (some ⟨G, 0, none⟩) N N) (fillTo 0 f N i) ∧ Ext w wr) (fun tv iv wr => N - (intOf iv).toNat)
  case atStart => exact ⟨0, Nat.zero_le _, Nat.zero_le _, rfl, ⟨0, rfl, by decide, by decide, .inl rfl⟩, by rw [fillTo_zero]; exact ownsRow.base HO2.out hwG, hE⟩
  case round =>
    clear hE HO2
    obtain ⟨i, hi, hix, rfl, ⟨T, rfl, hT0, hT4, hTT⟩, hO, hE⟩ := hrel
    have HO := Lib.hid hO
    clear hO
    by_cases hlt : i < N ∧ i < xs.length
    · obtain ⟨hlt, hlx⟩ := hlt
      obtain ⟨bl, offl, cl', he', hcl, hclm, hcelll⟩ := Rd.pos (H.out.ext hE) (by omega)
      injection he' with e1 e2 e3
      subst e1 e3
      unfold maxLen at hclm
      have d2 := hcelll i hlx
      obtain ⟨c1, c2⟩ := Own.at HO.out i (by rw [fillTo_length]; exact hlt)
      have hq := bounds_i64 (Hxs.out (xs.getD i 0) (by rw [List.getD_eq_getElem?_getD, List.getElem?_eq_getElem hlx]; exact List.getElem_mem _))
      have hfi : f i = xs.getD i 0 % 5 := by rw [Hf.out]
      obtain ⟨q, hqq⟩ : ∃ q, xs.getD i 0 = q := ⟨_, rfl⟩
      rw [hqq] at d2 hq hfi
      obtain ⟨p, hp⟩ : ∃ p, f i = p := ⟨_, rfl⟩
      have hpr := Hfr.out i
      rw [hp] at hpr hfi
      obtain ⟨hp0, hp4⟩ := hpr
      have Hq := Lib.hid hq
      have Hfi := Lib.hid hfi
      have Hp := Lib.hid hp
      have HTT := Lib.hid hTT
      clear hcelll hq hqq hfi hp hTT
      go_wp2_with fail
      refine (within_calls q 5 wr (by omega) (by omega) Hq.out).mono ?_
      rintro e w' ⟨rfl, rfl⟩
      rw [← Hfi.out]
      have HO3 := Lib.hid (Own.store HO.out (fillTo_length ..).symm i p)
      have hE3 := hE.set (a := ⟨G, i, none⟩) hwG (.int .i64 p)
      have d3 := (Own.at HO3.out i (by rw [List.length_set, fillTo_length]; exact hlt)).1
      have hgs : ((fillTo 0 f N i).set i p).getD i 0 = p := by rw [← Hp.out, fillTo_set, fillTo_get _ _ _ _ _ hlt, if_pos (Nat.lt_succ_self i)]
      rw [hgs] at d3
      have hst : (fillTo 0 f N i).set i p = fillTo 0 f N (i + 1) := by rw [← Hp.out, fillTo_set]
      rw [hst] at HO3
      clear hgs hst
      by_cases hmax : T < p
      · go_wp2_with fail
        go_roundw
        case rel => exact ⟨i + 1, by omega, by omega, by go_num, ⟨p, rfl, hp0, hp4, .inr ⟨i, Nat.lt_succ_self i, Hp.out.symm⟩⟩, HO3.out, hE3⟩
        case measure => simp [intOf]; omega
      · go_wp2_with fail
        go_roundw
        case rel => exact ⟨i + 1, by omega, by omega, by go_num, ⟨T, rfl, hT0, hT4, HTT.out.imp id fun ⟨j, hj, h⟩ => ⟨j, by omega, h⟩⟩, HO3.out, hE3⟩
        case measure => simp [intOf]; omega
    · by_cases hiN : i < N
      · have hix2 : ¬ i < xs.length := fun h => hlt ⟨hiN, h⟩
        clear hlt
        obtain ⟨x0, hx0⟩ : ∃ x0, fillTo 0 f N i = x0 := ⟨_, rfl⟩
        have hxl : x0.length = N := by rw [← hx0, fillTo_length]
        have hxf : ∀ j, j < N → x0.getD j 0 = if j < i then f j else 0 := fun j hj => by rw [← hx0, fillTo_get _ _ _ _ _ hj]
        have h00 : ∀ j, j < N → 0 ≤ x0.getD j 0 := fun j hj => by rw [hxf j hj]; have := Hfr.out j; split <;> omega
        have h04 : ∀ j, j < N → x0.getD j 0 ≤ 4 := fun j hj => by rw [hxf j hj]; have := Hfr.out j; split <;> omega
        have HT0 := Lib.hid (Turned.start hxl h00 h04)
        have Htop : Hid (T = 0 ∨ ∃ j, j < N ∧ T = x0.getD j 0) := Lib.hid (by
          rcases hTT with h | ⟨j, hj, h⟩
          · exact .inl h
          · exact .inr ⟨j, by omega, by rw [hxf j (by omega), if_pos hj]; exact h⟩)
        have HO := Lib.hid (hx0 ▸ HO.out)
        clear hx0 hxl hxf h00 h04 hTT
        have tok : True := trivial
        go_wp2_with (at_make; have _t := tok; clear _t; refine wpList_make_bools rfl _ _ 25 4 1 rfl Try.underlying25 infoBool _ _ _ _ N rfl rfl rfl rfl (by omega) (by omega) ?_; intro w4 hM4 hE4; clear tok)
        obtain ⟨Gm, hGm⟩ : ∃ Gm, wr.heap.size = Gm := ⟨_, rfl⟩
        rw [hGm] at hM4 ⊢
        have hGG : G < Gm := hGm ▸ (HO.out.lt G rfl).2
        have hwm : w.heap.size ≤ Gm := hGm ▸ hE.size
        have HM4 := Lib.hid (ownsRow.base hM4 hwm)
        have HO4 := Lib.hid (ownsRow.ext HO.out hE4)
        have hE5 := hE.trans hE4
        clear hGm hM4 hE4 hE HO
        go_loopw [11] (fun iv wr => ∃ i : Nat, i ≤ N ∧ iv = .int .i64 i ∧ OwnB wr w.heap.size 4 (.slice (some ⟨Gm, 0, none⟩) N N) (fillTo false (fun _ => true) N i) ∧ Own wr w.heap.size 3 .i64 (.slice (some ⟨G, 0, none⟩) N N) x0 ∧ Ext w wr) (fun iv wr => N - (intOf iv).toNat)
        case atStart => exact ⟨0, Nat.zero_le _, rfl, by rw [fillTo_zero]; exact HM4.out, HO4.out, hE5⟩
        case round =>
          clear hE5 HM4 HO4
          obtain ⟨i, hi, rfl, hM, hO, hE⟩ := hrel
          have HM := Lib.hid hM
          have HO := Lib.hid hO
          clear hM hO
          by_cases hlt : i < N
          · obtain ⟨c1, c2⟩ := OwnB.at HM.out i (by rw [fillTo_length]; exact hlt)
            go_wp2_with fail
            go_roundw
            case rel => exact ⟨i + 1, by omega, by go_num, by rw [← fillTo_set]; exact OwnB.store HM.out (fillTo_length ..).symm i true, ownsRow.other (a := ⟨Gm, i, none⟩) HO.out (Nat.ne_of_lt hGG) (.bool true), hE.set hwm _⟩
            case measure => simp [intOf]; omega
          · obtain rfl : i = N := by omega
            obtain ⟨bs, hbs⟩ : ∃ bs, fillTo false (fun _ => true) i i = bs := ⟨_, rfl⟩
            have hbl : bs.length = i := by rw [← hbs, fillTo_length]
            have hbt : ∀ j, j < i → bs.getD j false = true := fun j hj => by rw [← hbs, fillTo_get _ _ _ _ _ hj, if_pos hj]
            rw [hbs] at HM
            have Hbl := Lib.hid hbl
            have Hbt := Lib.hid hbt
            clear hbs hbl hbt
            go_wp2_with fail
            go_loopw [12] (fun tv wr => ∃ t : Nat, t ≤ 5 * i + r ∧ tv = .int .i64 t ∧ OwnB wr w.heap.size 4 (.slice (some ⟨Gm, 0, none⟩) i i) bs ∧ (∃ xs, Turned i x0 xs t ∧ Own wr w.heap.size 3 .i64 (.slice (some ⟨G, 0, none⟩) i i) xs) ∧ Ext w wr) (fun tv wr => 5 * i + r - (intOf tv).toNat)
            case atStart => exact ⟨0, Nat.zero_le _, rfl, HM.out, ⟨x0, HT0.out, HO.out⟩, hE⟩
            case round =>
              clear hE HM HO
              obtain ⟨t, ht, rfl, hM, ⟨ys, hT, hO⟩, hE⟩ := hrel
              have HM := Lib.hid hM
              have HT := Lib.hid hT
              have HO := Lib.hid hO
              clear hM hT hO
              go_wp2_with fail
              refine (within_calls o 100 wr (by omega) (by omega) Ho.out).mono ?_
              rintro e w' ⟨rfl, rfl⟩
              rw [Hr.out]
              by_cases hlt : t < 5 * i + r
              · have h2 : Two wr (.slice (some ⟨Gm, 0, none⟩) i i) bs (.slice (some ⟨G, 0, none⟩) i i) ys := ⟨ownsRow.reads HM.out |> fun h => by rw [Hbl.out] at h; unfold RdB; rw [Hbl.out]; exact h, ownsRow.reads HO.out |> fun h => by rw [HT.out.len] at h; unfold Rd; rw [HT.out.len]; exact h⟩
                have H2 := Lib.hid h2
                clear h2
                have hpos : ∃ k : Nat, k < i ∧ leastPos bs ys = k ∧ ∀ j, j < i → ys.getD k 0 ≤ ys.getD j 0 := by
                  rcases leastPos_at bs ys with ⟨_, h5⟩ | ⟨k, k1, k2, k3, k4, k5⟩
                  · have a := h5 0 (by rw [Hbl.out, HT.out.len]; omega)
                    rw [Hbt.out 0 (by omega)] at a
                    cases a
                  · exact ⟨k, by rw [Hbl.out] at k1; exact k1, k3, fun j hj => (k5 j (by rw [Hbl.out, HT.out.len]; omega) (Hbt.out j hj)).1⟩
                obtain ⟨k, hk, hlp, hmin⟩ := hpos
                have HT2 := Lib.hid (HT.out.turn hk hmin)
                have hyk0 := HT.out.low k hk
                have hyk1 := HT.out.high k hk
                have Hlp := Lib.hid hlp
                clear hlp hmin
                go_wp2_with fail
                refine (Next_calls _ _ _ _ wr H2.out).mono ?_
                rw [Hlp.out]
                rintro e w5 ⟨rfl, hE5⟩
                have HM5 := Lib.hid (ownsRow.ext HM.out hE5)
                have HO5 := Lib.hid (ownsRow.ext HO.out hE5)
                have hEw5 := hE.trans hE5
                obtain ⟨c1, c2⟩ := Own.at HO5.out k (by rw [HT.out.len]; exact hk)
                obtain ⟨q, hq⟩ : ∃ q, ys.getD k 0 = q := ⟨_, rfl⟩
                rw [hq] at c1 hyk0 hyk1 HT2
                clear H2 HM HO hE hE5 Hlp hq
                go_wp2_with fail
                go_roundw
                case rel => exact ⟨t + 1, by omega, by go_num, ownsRow.other (a := ⟨G, k, none⟩) HM5.out (Nat.ne_of_gt hGG) _, ⟨_, HT2.out, Own.store HO5.out HT.out.len.symm k _ |> fun h => h⟩, hEw5.set hwG _⟩
                case measure => simp [intOf]; omega
              · obtain rfl : t = 5 * i + r := by omega
                have Hsp := Lib.hid (HT.out.spread hN1 (by omega))
                have Hgr := Lib.hid HT.out.grown
                have Hlo := Lib.hid HT.out.low
                have Hhi := Lib.hid HT.out.high
                obtain ⟨q0, hq0⟩ : ∃ q0, ys.getD 0 0 = q0 := ⟨_, rfl⟩
                have c1 := (Own.at HO.out 0 (by rw [HT.out.len]; exact hN1)).1
                have hb1 := Hlo.out 0 hN1
                have hb2 := Hhi.out 0 hN1
                rw [hq0] at c1 hb1 hb2
                have Hq0 := Lib.hid hq0
                have h0i : (0 : Int) < (i : Int) := by omega
                have Hlen := Lib.hid HT.out.len
                clear hq0 HT HT0
                go_wp2_with fail
                go_quiet (fail)
                have hE5 := hE.drewN nq
                have HO5 := Lib.hid (ownsRow.ext HO.out ((Ext.refl wr).drewN nq))
                clear hE HO HM c1
                go_wp2_with fail
                go_loopw [14, 15, 16] (fun lv mv jv wr => ∃ j : Nat, j ≤ i ∧ jv = .int .i64 j ∧ (∃ a b : Nat, a < i ∧ b < i ∧ lv = .int .i64 (ys.getD a 0) ∧ mv = .int .i64 (ys.getD b 0) ∧ ∀ q, q < j → ys.getD q 0 ≤ ys.getD b 0) ∧ Own wr w.heap.size 3 .i64 (.slice (some ⟨G, 0, none⟩) i i) ys ∧ Ext w wr) (fun lv mv jv wr => i - (intOf jv).toNat)
                case atStart => exact ⟨0, Nat.zero_le _, rfl, ⟨0, 0, hN1, hN1, by rw [Hq0.out], by rw [Hq0.out], fun q hq => absurd hq (Nat.not_lt_zero _)⟩, HO5.out, hE5⟩
                case round =>
                  clear hE5 HO5
                  obtain ⟨j, hj, rfl, ⟨a, b, ha, hb, rfl, rfl, hmx⟩, hO, hE⟩ := hrel
                  have HO := Lib.hid hO
                  obtain ⟨pa, hpa⟩ : ∃ pa, ys.getD a 0 = pa := ⟨_, rfl⟩
                  obtain ⟨pb, hpb⟩ : ∃ pb, ys.getD b 0 = pb := ⟨_, rfl⟩
                  have Hpa := Lib.hid hpa
                  have Hpb := Lib.hid hpb
                  have hla := Hlo.out a ha
                  have hlb := Hlo.out b hb
                  have hha := Hhi.out a ha
                  have hhb := Hhi.out b hb
                  rw [hpa] at hla hha ⊢
                  rw [hpb] at hlb hhb hmx ⊢
                  have Hmx := Lib.hid hmx
                  clear hO hpa hpb hmx
                  by_cases hlt : j < i
                  · have c1 := (Own.at HO.out j (by rw [Hlen.out]; exact hlt)).1
                    have hji : (j : Int) < (i : Int) := by omega
                    obtain ⟨p, hp⟩ : ∃ p, ys.getD j 0 = p := ⟨_, rfl⟩
                    have hlp := Hlo.out j hlt
                    have hhp := Hhi.out j hlt
                    rw [hp] at c1 hlp hhp
                    have Hp := Lib.hid hp
                    clear hp
                    have step : ∀ a' b' : Nat, a' < i → b' < i → (∀ q, q < j + 1 → ys.getD q 0 ≤ ys.getD b' 0) → ∀ (n : Nat), ∃ j' : Nat, j' ≤ i ∧ Value.int .i64 ((j : Int) + 1) = .int .i64 j' ∧ (∃ a b : Nat, a < i ∧ b < i ∧ Value.int .i64 (ys.getD a' 0) = .int .i64 (ys.getD a 0) ∧ Value.int .i64 (ys.getD b' 0) = .int .i64 (ys.getD b 0) ∧ ∀ q, q < j' → ys.getD q 0 ≤ ys.getD b 0) ∧ Own (wr.drewN n) w.heap.size 3 .i64 (.slice (some ⟨G, 0, none⟩) i i) ys ∧ Ext w (wr.drewN n) :=
                      fun a' b' h1 h2 h3 n => ⟨j + 1, by omega, by go_num, ⟨a', b', h1, h2, rfl, rfl, h3⟩, ownsRow.ext HO.out ((Ext.refl wr).drewN n), hE.drewN n⟩
                    have Step := Lib.hid step
                    have up : pb < p → ∀ q, q < j + 1 → ys.getD q 0 ≤ ys.getD j 0 := by
                      intro h q hq
                      rw [Hp.out]
                      rcases Nat.lt_or_ge q j with h' | h'
                      · have := Hmx.out q h'; omega
                      · rw [show q = j by omega, Hp.out]; exact Int.le_refl _
                    have stay : ¬ pb < p → ∀ q, q < j + 1 → ys.getD q 0 ≤ ys.getD b 0 := by
                      intro h q hq
                      rw [Hpb.out]
                      rcases Nat.lt_or_ge q j with h' | h'
                      · exact Hmx.out q h'
                      · rw [show q = j by omega, Hp.out]; omega
                    have Up := Lib.hid up
                    have Stay := Lib.hid stay
                    clear step up stay
                    by_cases hl : p < pa
                    · by_cases hm : pb < p
                      · have hl2 : p ≤ pa := by omega
                        go_wp2_with fail
                        go_quiet (fail)
                        go_wp2_with fail
                        go_roundw
                        case rel => have s := Step.out j j hlt hlt (Up.out hm) nq; rw [Hp.out] at s; exact s
                        case measure => simp [intOf]; omega
                      · skip
                        go_wp2_with fail
                        go_quiet (fail)
                        go_wp2_with fail
                        go_roundw
                        case rel => have s := Step.out j b hlt hb (Stay.out (by omega)) nq; rw [Hp.out, Hpb.out] at s; exact s
                        case measure => simp [intOf]; omega
                    · by_cases hm : pb < p
                      · skip
                        go_wp2_with fail
                        go_quiet (fail)
                        go_wp2_with fail
                        go_roundw
                        case rel => have s := Step.out a j ha hlt (Up.out hm) nq; rw [Hpa.out, Hp.out] at s; exact s
                        case measure => simp [intOf]; omega
                      · skip
                        go_wp2_with fail
                        go_quiet (fail)
                        go_wp2_with fail
                        go_roundw
                        case rel => have s := Step.out a b ha hb (Stay.out (by omega)) nq; rw [Hpa.out, Hpb.out] at s; exact s
                        case measure => simp [intOf]; omega
                  · obtain rfl : j = i := by omega
                    have hsp := Hsp.out b a hb ha
                    rw [Hpa.out, Hpb.out] at hsp
                    have htop : T ≤ pb := by
                      rcases Htop.out with h | ⟨q, hq, h⟩
                      · omega
                      · have h1 := Hgr.out q hq
                        have h2 := Hmx.out q hq
                        omega
                    go_wp2_with fail
                    go_ret
                    exact ⟨rfl, hE⟩
      · clear hlt
        obtain ⟨x0, hx0⟩ : ∃ x0, fillTo 0 f N i = x0 := ⟨_, rfl⟩
        have hxl : x0.length = N := by rw [← hx0, fillTo_length]
        have hxf : ∀ j, j < N → x0.getD j 0 = if j < i then f j else 0 := fun j hj => by rw [← hx0, fillTo_get _ _ _ _ _ hj]
        have h00 : ∀ j, j < N → 0 ≤ x0.getD j 0 := fun j hj => by rw [hxf j hj]; have := Hfr.out j; split <;> omega
        have h04 : ∀ j, j < N → x0.getD j 0 ≤ 4 := fun j hj => by rw [hxf j hj]; have := Hfr.out j; split <;> omega
        have HT0 := Lib.hid (Turned.start hxl h00 h04)
        have Htop : Hid (T = 0 ∨ ∃ j, j < N ∧ T = x0.getD j 0) := Lib.hid (by
          rcases hTT with h | ⟨j, hj, h⟩
          · exact .inl h
          · exact .inr ⟨j, by omega, by rw [hxf j (by omega), if_pos hj]; exact h⟩)
        have HO := Lib.hid (hx0 ▸ HO.out)
        clear hx0 hxl hxf h00 h04 hTT
        have tok : True := trivial
        go_wp2_with (at_make; have _t := tok; clear _t; refine wpList_make_bools rfl _ _ 25 4 1 rfl Try.underlying25 infoBool _ _ _ _ N rfl rfl rfl rfl (by omega) (by omega) ?_; intro w4 hM4 hE4; clear tok)
        obtain ⟨Gm, hGm⟩ : ∃ Gm, wr.heap.size = Gm := ⟨_, rfl⟩
        rw [hGm] at hM4 ⊢
        have hGG : G < Gm := hGm ▸ (HO.out.lt G rfl).2
        have hwm : w.heap.size ≤ Gm := hGm ▸ hE.size
        have HM4 := Lib.hid (ownsRow.base hM4 hwm)
        have HO4 := Lib.hid (ownsRow.ext HO.out hE4)
        have hE5 := hE.trans hE4
        clear hGm hM4 hE4 hE HO
        go_loopw [11] (fun iv wr => ∃ i : Nat, i ≤ N ∧ iv = .int .i64 i ∧ OwnB wr w.heap.size 4 (.slice (some ⟨Gm, 0, none⟩) N N) (fillTo false (fun _ => true) N i) ∧ Own wr w.heap.size 3 .i64 (.slice (some ⟨G, 0, none⟩) N N) x0 ∧ Ext w wr) (fun iv wr => N - (intOf iv).toNat)
        case atStart => exact ⟨0, Nat.zero_le _, rfl, by rw [fillTo_zero]; exact HM4.out, HO4.out, hE5⟩
        case round =>
          clear hE5 HM4 HO4
          obtain ⟨i, hi, rfl, hM, hO, hE⟩ := hrel
          have HM := Lib.hid hM
          have HO := Lib.hid hO
          clear hM hO
          by_cases hlt : i < N
          · obtain ⟨c1, c2⟩ := OwnB.at HM.out i (by rw [fillTo_length]; exact hlt)
            go_wp2_with fail
            go_roundw
            case rel => exact ⟨i + 1, by omega, by go_num, by rw [← fillTo_set]; exact OwnB.store HM.out (fillTo_length ..).symm i true, ownsRow.other (a := ⟨Gm, i, none⟩) HO.out (Nat.ne_of_lt hGG) (.bool true), hE.set hwm _⟩
            case measure => simp [intOf]; omega
          · obtain rfl : i = N := by omega
            obtain ⟨bs, hbs⟩ : ∃ bs, fillTo false (fun _ => true) i i = bs := ⟨_, rfl⟩
            have hbl : bs.length = i := by rw [← hbs, fillTo_length]
            have hbt : ∀ j, j < i → bs.getD j false = true := fun j hj => by rw [← hbs, fillTo_get _ _ _ _ _ hj, if_pos hj]
            rw [hbs] at HM
            have Hbl := Lib.hid hbl
            have Hbt := Lib.hid hbt
            clear hbs hbl hbt
            go_wp2_with fail
            go_loopw [12] (fun tv wr => ∃ t : Nat, t ≤ 5 * i + r ∧ tv = .int .i64 t ∧ OwnB wr w.heap.size 4 (.slice (some ⟨Gm, 0, none⟩) i i) bs ∧ (∃ xs, Turned i x0 xs t ∧ Own wr w.heap.size 3 .i64 (.slice (some ⟨G, 0, none⟩) i i) xs) ∧ Ext w wr) (fun tv wr => 5 * i + r - (intOf tv).toNat)
            case atStart => exact ⟨0, Nat.zero_le _, rfl, HM.out, ⟨x0, HT0.out, HO.out⟩, hE⟩
            case round =>
              clear hE HM HO
              obtain ⟨t, ht, rfl, hM, ⟨ys, hT, hO⟩, hE⟩ := hrel
              have HM := Lib.hid hM
              have HT := Lib.hid hT
              have HO := Lib.hid hO
              clear hM hT hO
              go_wp2_with fail
              refine (within_calls o 100 wr (by omega) (by omega) Ho.out).mono ?_
              rintro e w' ⟨rfl, rfl⟩
              rw [Hr.out]
              by_cases hlt : t < 5 * i + r
              · have h2 : Two wr (.slice (some ⟨Gm, 0, none⟩) i i) bs (.slice (some ⟨G, 0, none⟩) i i) ys := ⟨ownsRow.reads HM.out |> fun h => by rw [Hbl.out] at h; unfold RdB; rw [Hbl.out]; exact h, ownsRow.reads HO.out |> fun h => by rw [HT.out.len] at h; unfold Rd; rw [HT.out.len]; exact h⟩
                have H2 := Lib.hid h2
                clear h2
                have hpos : ∃ k : Nat, k < i ∧ leastPos bs ys = k ∧ ∀ j, j < i → ys.getD k 0 ≤ ys.getD j 0 := by
                  rcases leastPos_at bs ys with ⟨_, h5⟩ | ⟨k, k1, k2, k3, k4, k5⟩
                  · have a := h5 0 (by rw [Hbl.out, HT.out.len]; omega)
                    rw [Hbt.out 0 (by omega)] at a
                    cases a
                  · exact ⟨k, by rw [Hbl.out] at k1; exact k1, k3, fun j hj => (k5 j (by rw [Hbl.out, HT.out.len]; omega) (Hbt.out j hj)).1⟩
                obtain ⟨k, hk, hlp, hmin⟩ := hpos
                have HT2 := Lib.hid (HT.out.turn hk hmin)
                have hyk0 := HT.out.low k hk
                have hyk1 := HT.out.high k hk
                have Hlp := Lib.hid hlp
                clear hlp hmin
                go_wp2_with fail
                refine (Next_calls _ _ _ _ wr H2.out).mono ?_
                rw [Hlp.out]
                rintro e w5 ⟨rfl, hE5⟩
                have HM5 := Lib.hid (ownsRow.ext HM.out hE5)
                have HO5 := Lib.hid (ownsRow.ext HO.out hE5)
                have hEw5 := hE.trans hE5
                obtain ⟨c1, c2⟩ := Own.at HO5.out k (by rw [HT.out.len]; exact hk)
                obtain ⟨q, hq⟩ : ∃ q, ys.getD k 0 = q := ⟨_, rfl⟩
                rw [hq] at c1 hyk0 hyk1 HT2
                clear H2 HM HO hE hE5 Hlp hq
                go_wp2_with fail
                go_roundw
                case rel => exact ⟨t + 1, by omega, by go_num, ownsRow.other (a := ⟨G, k, none⟩) HM5.out (Nat.ne_of_gt hGG) _, ⟨_, HT2.out, Own.store HO5.out HT.out.len.symm k _ |> fun h => h⟩, hEw5.set hwG _⟩
                case measure => simp [intOf]; omega
              · obtain rfl : t = 5 * i + r := by omega
                have Hsp := Lib.hid (HT.out.spread hN1 (by omega))
                have Hgr := Lib.hid HT.out.grown
                have Hlo := Lib.hid HT.out.low
                have Hhi := Lib.hid HT.out.high
                obtain ⟨q0, hq0⟩ : ∃ q0, ys.getD 0 0 = q0 := ⟨_, rfl⟩
                have c1 := (Own.at HO.out 0 (by rw [HT.out.len]; exact hN1)).1
                have hb1 := Hlo.out 0 hN1
                have hb2 := Hhi.out 0 hN1
                rw [hq0] at c1 hb1 hb2
                have Hq0 := Lib.hid hq0
                have h0i : (0 : Int) < (i : Int) := by omega
                have Hlen := Lib.hid HT.out.len
                clear hq0 HT HT0
                go_wp2_with fail
                go_quiet (fail)
                have hE5 := hE.drewN nq
                have HO5 := Lib.hid (ownsRow.ext HO.out ((Ext.refl wr).drewN nq))
                clear hE HO HM c1
                go_wp2_with fail
                go_loopw [14, 15, 16] (fun lv mv jv wr => ∃ j : Nat, j ≤ i ∧ jv = .int .i64 j ∧ (∃ a b : Nat, a < i ∧ b < i ∧ lv = .int .i64 (ys.getD a 0) ∧ mv = .int .i64 (ys.getD b 0) ∧ ∀ q, q < j → ys.getD q 0 ≤ ys.getD b 0) ∧ Own wr w.heap.size 3 .i64 (.slice (some ⟨G, 0, none⟩) i i) ys ∧ Ext w wr) (fun lv mv jv wr => i - (intOf jv).toNat)
                case atStart => exact ⟨0, Nat.zero_le _, rfl, ⟨0, 0, hN1, hN1, by rw [Hq0.out], by rw [Hq0.out], fun q hq => absurd hq (Nat.not_lt_zero _)⟩, HO5.out, hE5⟩
                case round =>
                  clear hE5 HO5
                  obtain ⟨j, hj, rfl, ⟨a, b, ha, hb, rfl, rfl, hmx⟩, hO, hE⟩ := hrel
                  have HO := Lib.hid hO
                  obtain ⟨pa, hpa⟩ : ∃ pa, ys.getD a 0 = pa := ⟨_, rfl⟩
                  obtain ⟨pb, hpb⟩ : ∃ pb, ys.getD b 0 = pb := ⟨_, rfl⟩
                  have Hpa := Lib.hid hpa
                  have Hpb := Lib.hid hpb
                  have hla := Hlo.out a ha
                  have hlb := Hlo.out b hb
                  have hha := Hhi.out a ha
                  have hhb := Hhi.out b hb
                  rw [hpa] at hla hha ⊢
                  rw [hpb] at hlb hhb hmx ⊢
                  have Hmx := Lib.hid hmx
                  clear hO hpa hpb hmx
                  by_cases hlt : j < i
                  · have c1 := (Own.at HO.out j (by rw [Hlen.out]; exact hlt)).1
                    have hji : (j : Int) < (i : Int) := by omega
                    obtain ⟨p, hp⟩ : ∃ p, ys.getD j 0 = p := ⟨_, rfl⟩
                    have hlp := Hlo.out j hlt
                    have hhp := Hhi.out j hlt
                    rw [hp] at c1 hlp hhp
                    have Hp := Lib.hid hp
                    clear hp
                    have step : ∀ a' b' : Nat, a' < i → b' < i → (∀ q, q < j + 1 → ys.getD q 0 ≤ ys.getD b' 0) → ∀ (n : Nat), ∃ j' : Nat, j' ≤ i ∧ Value.int .i64 ((j : Int) + 1) = .int .i64 j' ∧ (∃ a b : Nat, a < i ∧ b < i ∧ Value.int .i64 (ys.getD a' 0) = .int .i64 (ys.getD a 0) ∧ Value.int .i64 (ys.getD b' 0) = .int .i64 (ys.getD b 0) ∧ ∀ q, q < j' → ys.getD q 0 ≤ ys.getD b 0) ∧ Own (wr.drewN n) w.heap.size 3 .i64 (.slice (some ⟨G, 0, none⟩) i i) ys ∧ Ext w (wr.drewN n) :=
                      fun a' b' h1 h2 h3 n => ⟨j + 1, by omega, by go_num, ⟨a', b', h1, h2, rfl, rfl, h3⟩, ownsRow.ext HO.out ((Ext.refl wr).drewN n), hE.drewN n⟩
                    have Step := Lib.hid step
                    have up : pb < p → ∀ q, q < j + 1 → ys.getD q 0 ≤ ys.getD j 0 := by
                      intro h q hq
                      rw [Hp.out]
                      rcases Nat.lt_or_ge q j with h' | h'
                      · have := Hmx.out q h'; omega
                      · rw [show q = j by omega, Hp.out]; exact Int.le_refl _
                    have stay : ¬ pb < p → ∀ q, q < j + 1 → ys.getD q 0 ≤ ys.getD b 0 := by
                      intro h q hq
                      rw [Hpb.out]
                      rcases Nat.lt_or_ge q j with h' | h'
                      · exact Hmx.out q h'
                      · rw [show q = j by omega, Hp.out]; omega
                    have Up := Lib.hid up
                    have Stay := Lib.hid stay
                    clear step up stay
                    by_cases hl : p < pa
                    · by_cases hm : pb < p
                      · have hl2 : p ≤ pa := by omega
                        go_wp2_with fail
                        go_quiet (fail)
                        go_wp2_with fail
                        go_roundw
                        case rel => have s := Step.out j j hlt hlt (Up.out hm) nq; rw [Hp.out] at s; exact s
                        case measure => simp [intOf]; omega
                      · skip
                        go_wp2_with fail
                        go_quiet (fail)
                        go_wp2_with fail
                        go_roundw
                        case rel => have s := Step.out j b hlt hb (Stay.out (by omega)) nq; rw [Hp.out, Hpb.out] at s; exact s
                        case measure => simp [intOf]; omega
                    · by_cases hm : pb < p
                      · skip
                        go_wp2_with fail
                        go_quiet (fail)
                        go_wp2_with fail
                        go_roundw
                        case rel => have s := Step.out a j ha hlt (Up.out hm) nq; rw [Hpa.out, Hp.out] at s; exact s
                        case measure => simp [intOf]; omega
                      · skip
                        go_wp2_with fail
                        go_quiet (fail)
                        go_wp2_with fail
                        go_roundw
                        case rel => have s := Step.out a b ha hb (Stay.out (by omega)) nq; rw [Hpa.out, Hpb.out] at s; exact s
                        case measure => simp [intOf]; omega
                  · obtain rfl : j = i := by omega
                    have hsp := Hsp.out b a hb ha
                    rw [Hpa.out, Hpb.out] at hsp
                    have htop : T ≤ pb := by
                      rcases Htop.out with h | ⟨q, hq, h⟩
                      · omega
                      · have h1 := Hgr.out q hq
                        have h2 := Hmx.out q hq
                        omega
                    go_wp2_with fail
                    go_ret
                    exact ⟨rfl, hE⟩
end Go.Proofs.Ytgmndmfcacadcaa
