/-
  The walk of the law EntryReads. Printed by mk_EntryReads.py.
-/
import Derived.Test.YtmbjebdkhcpclaaEntryUnlike
import Derived.Test.YtmbjebdkhcpclaaEPd
import Derived.Test.YtmbjebdkhcpclaaRu
set_option linter.unusedSimpArgs false
set_option linter.unusedVariables false
namespace Go.Proofs.Ytmbjebdkhcpclaa
open Go.RowKit
attribute [local go_sem] slotEval

theorem built_head1 (a : Int) : Try.prog.built 30 [(0, .int .i64 a)] = some (headCells a 0 0 0) := by kernel_rfl
theorem u8_wrap_range (q : Int) : 0 ≤ IntKind.u8.wrap q ∧ IntKind.u8.wrap q < 256 := by
  rw [show IntKind.u8.wrap q = q % 256 from rfl]; omega

set_option maxHeartbeats 16000000 in
set_option maxRecDepth 100000 in
theorem EntryReads_walk (k l s : Int) (d : Nat → Int) (vat : Value) (ats : List Int) (vby : Value) (bys : List Int) (cut : Int) (vraw : Value) (raw : List Int) (w00 : World) (hk : (Lit.int .i64 k).wf = true) (hl : (Lit.int .i64 l).wf = true) (hs : (Lit.int .i64 s).wf = true) (hd : ∀ j, j < 16 → 0 ≤ d j ∧ d j < 256)
    (hat : Rd w00 .i64 vat ats) (hatw : ∀ n ∈ ats, (Lit.int .i64 n).wf = true) (hby : Rd w00 .u8 vby bys) (hbyw : ∀ n ∈ bys, (Lit.int .u8 n).wf = true) (hcut : (Lit.int .i64 cut).wf = true) (hraw : Rd w00 .u8 vraw raw) (hraww : ∀ n ∈ raw, (Lit.int .u8 n).wf = true) :
    Calls Try.prog 3 #[slotVal k l s d, vat, vby, .int .i64 cut, vraw] w00 fun e w' => e = .returned (.bool true) ∧ Ext w00 w' := by
  have Hd := Lib.hid hd
  have Hk := Lib.hid (bounds_i64 hk)
  have Hl := Lib.hid (bounds_i64 hl)
  have Hs := Lib.hid (bounds_i64 hs)
  have Hcut := Lib.hid (bounds_i64 hcut)
  have Hats := Lib.hid (show ∀ n ∈ ats, -9223372036854775808 ≤ n ∧ n ≤ 9223372036854775807 from fun n hn => bounds_i64 (hatw n hn))
  have Hbys := Lib.hid (bytes_range hbyw)
  have Hraw := Lib.hid (bytes_range hraww)
  obtain ⟨Aat, cat, rfl⟩ := hat.shape
  obtain ⟨Aby, cby, rfl⟩ := hby.shape
  obtain ⟨Ar, cr, rfl⟩ := hraw.shape
  have hal : ats.length ≤ maxLen := by obtain ⟨A, c, he, h1, h2, _⟩ := hat; omega
  have hbl : bys.length ≤ maxLen := by obtain ⟨A, c, he, h1, h2, _⟩ := hby; omega
  have hrl : raw.length ≤ maxLen := by obtain ⟨A, c, he, h1, h2, _⟩ := hraw; omega
  unfold maxLen at hal hbl hrl
  have HA := Lib.hid hat
  have HBy := Lib.hid hby
  have HRr := Lib.hid hraw
  clear hk hl hs hd hat hatw hby hbyw hcut hraw hraww
  obtain ⟨K, hK⟩ : ∃ Q, k % 4 = Q := ⟨_, rfl⟩
  obtain ⟨L, hL⟩ : ∃ Q, goodL k l = Q := ⟨_, rfl⟩
  obtain ⟨SS, hS⟩ : ∃ Q, goodS k s = Q := ⟨_, rfl⟩
  obtain ⟨D, hD⟩ : ∃ Q, goodD k d = Q := ⟨_, rfl⟩
  have GC := Lib.hid (show ∀ w, Calls Try.prog 12 #[slotVal k l s d] w fun e w' => e = .returned (slotVal K L SS D) ∧ Ext w w' from fun w => by
    have h := Good_calls k l s d w Hk.out Hl.out Hs.out
    rw [hK, hL, hS, hD] at h
    exact h)
  have HDr := Lib.hid (hD ▸ goodD_range k d Hd.out)
  clear hK hL hS hD
  go_enter Try.func3, Try.ntmps3
  go_wp2_with fail
  obtain ⟨B, hB⟩ : ∃ B, w00.heap.size = B := ⟨_, rfl⟩
  obtain ⟨wA, hwA⟩ : ∃ wA, w00.alloc (.cells (slotCells k l s d) 24) = wA := ⟨_, rfl⟩
  have HS := Lib.hid (show SlotAt wA B k l s d by rw [← hwA, ← hB]; exact SlotAt.new w00 k l s d)
  have hE0 : Ext w00 wA := hwA ▸ (Ext.refl w00).alloc _
  rw [hwA, hB]
  clear hwA hB
  refine (known10_calls wA).mono ?_
  rintro e w1 ⟨rfl, hE1⟩
  have HS := Lib.hid (HS.out.ext hE1)
  have hE := hE0.trans hE1
  clear hE0 hE1
  by_cases hr60 : 60 < raw.length
  · go_wp2_with fail
    go_ret
    exact ⟨rfl, hE⟩
  · have tok : True := trivial
    go_wp2_with (have _t := tok; clear _t; refine wpList_load_row rfl 24 _ rfl B rfl 24 (slotCells k l s d) (0, 0) _ HS.out Try.underlying24 rfl (slot_info ..) ?_; clear tok)
    refine (GC.out w1).mono ?_
    rintro e w2 ⟨rfl, hE2⟩
    have HS := Lib.hid (HS.out.ext hE2)
    have hE := hE.trans hE2
    clear hE2
    go_wp2_with fail
    refine (DBytes_calls 5 1 2 3 K L SS D w2).mono ?_
    rintro e w3 ⟨v3, rfl, hO3, hE3⟩
    obtain ⟨BG, hBG⟩ : ∃ Q, entryBytes 5 1 2 3 K L SS D = Q := ⟨_, rfl⟩
    have hBl : BG.length = 48 := by rw [← hBG, entryBytes_length]
    have HBx := Lib.hid (show ∀ x ∈ BG, 0 ≤ x ∧ x < 256 by rw [← hBG]; exact entryBytes_range _ _ _ _ _ _ _ _ HDr.out)
    rw [hBG] at hO3
    obtain ⟨BR, hBR⟩ : ∃ Q, entryBytes cut 0 0 0 k l s d = Q := ⟨_, rfl⟩
    have HRl := Lib.hid (show BR.length = 48 by rw [← hBR, entryBytes_length])
    have HRx := Lib.hid (show ∀ x ∈ BR, 0 ≤ x ∧ x < 256 by rw [← hBR]; exact entryBytes_range _ _ _ _ _ _ _ _ Hd.out)
    have HBR := Lib.hid hBR
    obtain ⟨g3, c3, rfl, hc31, hc32, _, _⟩ := Own.pos hO3 (by rw [hBl]; decide)
    rw [hBl] at hO3 hc31 ⊢
    have HBr := Lib.hid (show Rd w3 .u8 (.slice (some ⟨g3, 0, none⟩) 48 c3) BG from ownsRow.reads hO3)
    have HBl := Lib.hid hBl
    have HS := Lib.hid (HS.out.ext hE3)
    have hE := hE.trans hE3
    have HA := Lib.hid (RdC.ext HA.out hE)
    have HBy := Lib.hid (RdC.ext HBy.out hE)
    have HRr := Lib.hid (RdC.ext HRr.out hE)
    unfold maxLen at hc32
    clear hE3 hBG hBR hO3 hBl
    have tka1 : True := trivial
    go_wp2_with (at_builtin; have _t := tka1; clear _t; go_must (refine wpList_append_rd (w0 := w3) rfl _ _ 26 5 .u8 1 rfl Try.underlying26 infoU8 (by decide) (.slice (some ⟨w3.heap.size, 0, none⟩) 0 0) (.slice (some ⟨g3, 0, none⟩) 48 c3) [] BG rfl rfl (World.ownsRow_lit (base := w3.heap.size) (e := 5) (size := 1) w3 #[] 0 (Nat.le_refl _) (Nat.zero_le _) rfl) (RdC.ext HBr.out ((Ext.refl _).alloc _)) ((Ext.refl w3).alloc _) (by rw [HBl.out]; decide) ?_); intro vc1 wc1 hOc1 hEc1; have HOc1 := Lib.hid hOc1; clear hOc1 tka1)
    obtain ⟨g, cc, rfl, hcc1, hcc2, hg, _⟩ := Own.pos HOc1.out (by rw [List.nil_append, HBl.out]; decide)
    have h48 : ([] ++ BG : List Int).length = 48 := by rw [List.nil_append, HBl.out]
    rw [h48] at HOc1 hcc1
    rw [h48]
    unfold maxLen at hcc2
    clear h48
    go_loopw [13] (fun iv wr => ∃ (i : Nat) (XS : List Int), i ≤ 3 ∧ iv = .int .i64 i ∧ XS.length = 48 ∧ (∀ x ∈ XS, 0 ≤ x ∧ x < 256) ∧ Own wr w3.heap.size 5 .u8 (.slice (some ⟨g, 0, none⟩) 48 cc) XS ∧ Ext w3 wr) (fun iv wr => 3 - (intOf iv).toNat)
    case atStart => exact ⟨0, BG, by omega, rfl, HBl.out, HBx.out, HOc1.out, hEc1⟩
    case round =>
      clear HOc1 hEc1
      obtain ⟨i, XS, hi, rfl, hXl, hXr, hO, hE3⟩ := hrel
      have HXl := Lib.hid hXl
      have HXr := Lib.hid hXr
      have HO := Lib.hid hO
      clear hXl hXr hO
      by_cases e1 : i < ats.length
      · by_cases e2 : i < bys.length
        · by_cases e3 : i < 3
          · obtain ⟨ba, offa, ca, hea, hca1, hca2, hcella⟩ := Rd.pos (RdC.ext HA.out hE3) (by omega)
            injection hea with ea1 ea2 ea3
            subst ea1 ea3
            obtain ⟨bb, offb, cb, heb, hcb1, hcb2, hcellb⟩ := Rd.pos (RdC.ext HBy.out hE3) (by omega)
            injection heb with eb1 eb2 eb3
            subst eb1 eb3
            unfold maxLen at hca2 hcb2
            have hcla := hcella i e1
            have hclb := hcellb i e2
            obtain ⟨qa, hqa⟩ : ∃ Q, ats.getD i 0 = Q := ⟨_, rfl⟩
            obtain ⟨qb, hqb⟩ : ∃ Q, bys.getD i 0 = Q := ⟨_, rfl⟩
            have Hqa := Lib.hid (show -9223372036854775808 ≤ qa ∧ qa ≤ 9223372036854775807 from hqa ▸ Hats.out _ (by rw [List.getD_eq_getElem?_getD, List.getElem?_eq_getElem e1]; exact List.getElem_mem _))
            rw [hqa] at hcla
            rw [hqb] at hclb
            obtain ⟨p, hp⟩ : ∃ p : Nat, qa % 48 = p := ⟨(qa % 48).toNat, by omega⟩
            have hp1 : p < 48 := by omega
            have hp2 : (p : Int) < 48 := by omega
            have Hp := Lib.hid hp
            clear hcella hcellb hqa hqb hp
            go_wp2_with fail
            refine still_tail 16 mixed (by kernel_rfl) fun wd hwd => ?_
            have hE3 := hwd ▸ hE3.drew
            have HO := Lib.hid (show Own wd w3.heap.size 5 .u8 (.slice (some ⟨g, 0, none⟩) 48 cc) XS from hwd ▸ ownsRow.ext HO.out (Ext.drew1 _))
            have hcla := (hwd ▸ Ext.drew1 _ : Ext wr wd).cell hcla
            have hclb := (hwd ▸ Ext.drew1 _ : Ext wr wd).cell hclb
            obtain ⟨hclc, hfzc⟩ := Own.at HO.out p (by rw [HXl.out]; exact hp1)
            obtain ⟨xq, hxq⟩ : ∃ Q, XS.getD p 0 = Q := ⟨_, rfl⟩
            rw [hxq] at hclc
            clear hwd hxq
            simp only [List.take_succ_cons, List.take_zero, List.drop_succ_cons, List.drop_zero]
            still_step
            still_step
            still_step
            still_step
            still_step
            still_step
            still_step
            still_call (Hp.out ▸ within_still qa 48 _ (by decide) (by decide) Hqa.out)
            still_step
            still_step
            still_step
            still_step
            still_step
            still_step
            still_step
            still_step
            refine wpStill_nil ?_
            go_wp2_with fail
            go_roundw
            case rel => exact ⟨i + 1, XS.set p (IntKind.u8.wrap (xq + qb)), by omega, by go_num, by rw [List.length_set]; exact HXl.out, fun x hx => by
              rcases List.mem_or_eq_of_mem_set hx with h | rfl
              · exact HXr.out x h
              · exact u8_wrap_range _, Own.store HO.out HXl.out.symm p _, hE3.set hg _⟩
            case measure => simp [intOf]; omega
          · obtain rfl : i = 3 := by omega
            rw [show ((3 : Nat) : Int) = 3 from rfl]
            by_cases hm : Int.tmod cut 3 = 1
            · go_wp2_with fail
              obtain ⟨QC, hQC⟩ : ∃ Q, wrap64 (Int.tdiv cut 3) = Q := ⟨_, rfl⟩
              have hQr : -9223372036854775808 ≤ QC ∧ QC ≤ 9223372036854775807 := by rw [← hQC]; unfold wrap64; omega
              rw [hQC]
              clear hQC
              refine (within_calls QC 49 wr (by decide) (by decide) hQr).mono ?_
              rintro e w' ⟨rfl, rfl⟩
              obtain ⟨M, hM⟩ : ∃ M : Nat, QC % 49 = M := ⟨(QC % 49).toNat, by omega⟩
              have hM1 : M ≤ 48 := by omega
              rw [hM]
              clear hM hQr hm
              go_wp2_with fail
              have hRc : Rd wr .u8 (.slice (some ⟨g, 0, none⟩) M cc) (XS.take M) := by
                have h := ownsRow.reads HO.out
                have h2 : Rd wr .u8 (.slice (some ⟨g, 0, none⟩) 48 cc) (XS.take M ++ XS.drop M) := by rw [List.take_append_drop]; exact h
                exact Rd.len (rd_left h2) (by rw [List.length_take, HXl.out]; omega)
              have hZl : (XS.take M).length ≤ 1000000 := by rw [List.length_take, HXl.out]; omega
              have hZr : ∀ x ∈ XS.take M, 0 ≤ x ∧ x < 256 := fun x hx => HXr.out x (List.mem_of_mem_take hx)
              obtain ⟨ZS, hZS⟩ : ∃ Q, XS.take M = Q := ⟨_, rfl⟩
              rw [hZS] at hRc hZl hZr
              have HRc := Lib.hid hRc
              have HZr := Lib.hid hZr
              have HS := Lib.hid (HS.out.ext hE3)
              have HBr := Lib.hid (RdC.ext HBr.out hE3)
              have HRr := Lib.hid (RdC.ext HRr.out hE3)
              have hE3w := hE.trans hE3
              clear hRc hZr hZS HO HXl HXr hE3
              refine wp_region_schain mixed [1, 3, 5, 10, 11, 12]
                  [(· = .slice (some ⟨g, 0, none⟩) M cc),
                   (fun _ => True),
                   (· = .slice (some ⟨g3, 0, none⟩) 48 c3),
                   (fun _ => True),
                   (· = .slice Ar raw.length cr),
                   (fun _ => True),
                   (· = .slice Ar raw.length cr),
                   (· = .int .i64 cut),
                   (· = headVal cut 0 0 0),
                   (· = slotVal k l s d),
                   (fun _ => True),
                   (fun _ => True),
                   (fun _ => True)]
                  (wr.heap.size) (fun kk vv ww => match kk with | 0 => True | 1 => Own ww wr.heap.size 5 .u8 (vv 0) ([]) | 2 => Own ww wr.heap.size 5 .u8 (vv 1) (BG) | 3 => Own ww wr.heap.size 5 .u8 (vv 2) (BG ++ raw) | 4 => Rd ww .u8 (vv 2) (BG ++ raw) ∧ Rd ww .u8 (vv 3) BR | 5 => (∃ LB, (vv 4) = .slice (some ⟨LB, 0, none⟩) 4 4 ∧ ww.heap[LB]? = some (.cells #[.slice (some ⟨g, 0, none⟩) M cc, (vv 2), .slice Ar raw.length cr, (vv 3)] 26 (0, 0))) ∧ Rd ww .u8 (vv 2) (BG ++ raw) ∧ Rd ww .u8 (vv 3) BR | _ => (∃ LB, (vv 5) = .slice (some ⟨LB, 0, none⟩) 4 4 ∧ ww.heap[LB]? = some (.cells #[.slice (some ⟨g, 0, none⟩) M cc, (vv 2), .slice Ar raw.length cr, (vv 3)] 26 (0, 0))) ∧ Rd ww .u8 (vv 2) (BG ++ raw) ∧ Rd ww .u8 (vv 3) BR)
                  (by kernel_rfl) (by kernel_rfl) (by decide) ?start ?steps ?post
              case start => intro _; trivial
              case steps =>
                refine ⟨?_, ?_, ?_, ?_, ?_, ?_, ?_, ?_, ?_, ?_, ?_, ?_, ?_, trivial⟩
                · refine schain_pure (by kernel_rfl) fun σ w hE hold late hk => ?_
                  have h12 : σ 12 = .slice (some ⟨g, 0, none⟩) M cc := hold 12 (by kernel_rfl)
                  exact ⟨rfl, _, op_move rfl, h12⟩
                · refine schain_turn (k := 0) (by kernel_rfl) fun σ w hE hold late hk hT => ?_
                  have hT : True := hT
                  have hBw : wr.heap.size ≤ w.heap.size := Nat.le_trans (Nat.le_refl _) hE.size
                  have hO : Own (w.alloc (.cells #[] 5)) w.heap.size 5 .u8 (.slice (some ⟨w.heap.size, 0, none⟩) 0 0) [] := World.ownsRow_lit w #[] 0 (Nat.le_refl _) (Nat.zero_le _) rfl
                  exact ⟨rfl, Does.ok (op_lit0 rfl Try.underlying26 infoU8) ⟨((Ext.refl w).alloc _).mono hBw, ownsRow.base hO hBw, trivial⟩⟩
                · refine schain_pure (by kernel_rfl) fun σ w hE hold late hk => ?_
                  have h11 : σ 11 = .slice (some ⟨g3, 0, none⟩) 48 c3 := hold 11 (by kernel_rfl)
                  exact ⟨rfl, _, op_move rfl, h11⟩
                · refine schain_turn (k := 1) (by kernel_rfl) fun σ w hE hold late hk hT => ?_
                  have hT : Own w wr.heap.size 5 .u8 (σ 78) ([]) := hT
                  have hBw : wr.heap.size ≤ w.heap.size := Nat.le_trans (Nat.le_refl _) hE.size
                  have h79 : σ 79 = .slice (some ⟨g3, 0, none⟩) 48 c3 := hk.2.1
                  obtain ⟨v', w', hrun, hO', hG⟩ := run_append_num (P := Try.prog) w wr.heap.size 26 26 5 .u8 1 Try.underlying26 infoU8 (by decide) (σ 78) ([]) hT (.slice (some ⟨g3, 0, none⟩) 48 c3) (BG) (RdC.ext HBr.out hE) (by rw [HBl.out]; decide) hBw
                  exact ⟨rfl, Does.ok (op_append rfl rfl h79 hrun) ⟨hG.below hBw (fun q hq => (hT.lt q hq).1), (show Own w' wr.heap.size 5 .u8 v' (BG) from by simpa using hO'), trivial⟩⟩
                · refine schain_pure (by kernel_rfl) fun σ w hE hold late hk => ?_
                  have h4 : σ 4 = .slice Ar raw.length cr := hold 4 (by kernel_rfl)
                  exact ⟨rfl, _, op_move rfl, h4⟩
                · refine schain_turn (k := 2) (by kernel_rfl) fun σ w hE hold late hk hT => ?_
                  have hT : Own w wr.heap.size 5 .u8 (σ 80) (BG) := hT
                  have hBw : wr.heap.size ≤ w.heap.size := Nat.le_trans (Nat.le_refl _) hE.size
                  have h81 : σ 81 = .slice Ar raw.length cr := hk.2.1
                  obtain ⟨v', w', hrun, hO', hG⟩ := run_append_num (P := Try.prog) w wr.heap.size 26 26 5 .u8 1 Try.underlying26 infoU8 (by decide) (σ 80) (BG) hT (.slice Ar raw.length cr) (raw) (RdC.ext HRr.out hE) (by rw [HBl.out]; omega) hBw
                  exact ⟨rfl, Does.ok (op_append rfl rfl h81 hrun) ⟨hG.below hBw (fun q hq => (hT.lt q hq).1), (show Own w' wr.heap.size 5 .u8 v' (BG ++ raw) from by simpa using hO'), trivial⟩⟩
                · refine schain_pure (by kernel_rfl) fun σ w hE hold late hk => ?_
                  have h4 : σ 4 = .slice Ar raw.length cr := hold 4 (by kernel_rfl)
                  exact ⟨rfl, _, op_move rfl, h4⟩
                · refine schain_pure (by kernel_rfl) fun σ w hE hold late hk => ?_
                  have h3 : σ 3 = .int .i64 cut := hold 3 (by kernel_rfl)
                  exact ⟨rfl, _, op_move rfl, h3⟩
                · refine schain_pure (by kernel_rfl) fun σ w hE hold late hk => ?_
                  have h84 : σ 84 = .int .i64 cut := hk.1
                  exact ⟨rfl, _, op_build 30 _ rfl (headCells cut 0 0 0) (by simp only [List.map_toArray, List.map_cons, List.map_nil]; show Try.prog.built _ [(0, σ 84)] = _; rw [h84]; exact built_head1 _), rfl⟩
                · refine schain_pure (by kernel_rfl) fun σ w hE hold late hk => ?_
                  have h5 : σ 5 = .pointer (some ⟨B, 0, none⟩) := hold 5 (by kernel_rfl)
                  exact ⟨rfl, _, op_load_slot rfl h5 (HS.out.ext hE), rfl⟩
                · refine schain_turn (k := 3) (by kernel_rfl) fun σ w hE hold late hk hT => ?_
                  have hT : Own w wr.heap.size 5 .u8 (σ 82) (BG ++ raw) := hT
                  have hBw : wr.heap.size ≤ w.heap.size := Nat.le_trans (Nat.le_refl _) hE.size
                  have h85 : σ 85 = headVal cut 0 0 0 := hk.1
                  have h86 : σ 86 = slotVal k l s d := hk.2.1
                  refine ⟨rfl, Does.call (op_call2 rfl Try.func11 (by kernel_rfl) (by kernel_rfl) h85 h86) (DBytes_calls cut 0 0 0 k l s d w) ?_⟩
                  rintro e w' ⟨v', rfl, hO', hE'⟩
                  exact ⟨v', rfl, hE'.mono hBw, ⟨RdC.ext (ownsRow.reads hT) hE', HBR.out ▸ ownsRow.reads hO'⟩, trivial⟩
                · refine schain_turn (k := 4) (by kernel_rfl) fun σ w hE hold late hk hT => ?_
                  have hT : Rd w .u8 (σ 82) (BG ++ raw) ∧ Rd w .u8 (σ 87) BR := hT
                  have hBw : wr.heap.size ≤ w.heap.size := Nat.le_trans (Nat.le_refl _) hE.size
                  have h77 : σ 77 = .slice (some ⟨g, 0, none⟩) M cc := hk.1
                  have h83 : σ 83 = .slice Ar raw.length cr := hk.2.2.1
                  obtain ⟨A2, c2, e2⟩ := hT.1.shape
                  obtain ⟨A3, c3', e3⟩ := hT.2.shape
                  exact ⟨rfl, Does.ok (w' := w.alloc (.cells #[.slice (some ⟨g, 0, none⟩) M cc, .slice A2 (BG ++ raw).length c2, .slice Ar raw.length cr, .slice A3 BR.length c3'] 26)) (v := .slice (some ⟨w.heap.size, 0, none⟩) 4 4) (by go_simp) ⟨((Ext.refl w).alloc _).mono hBw, ⟨⟨w.heap.size, rfl, by rw [show upd (valsAt _ _ σ) 4 _ 2 = σ 82 from rfl, show upd (valsAt _ _ σ) 4 _ 3 = σ 87 from rfl, e2, e3]; exact heap_alloc_new w _⟩, RdC.ext hT.1 ((Ext.refl w).alloc _), RdC.ext hT.2 ((Ext.refl w).alloc _)⟩, trivial⟩⟩
                · refine schain_turn (k := 5) (by kernel_rfl) fun σ w hE hold late hk hT => ?_
                  have hT : (∃ LB, (σ 88) = .slice (some ⟨LB, 0, none⟩) 4 4 ∧ w.heap[LB]? = some (.cells #[.slice (some ⟨g, 0, none⟩) M cc, (σ 82), .slice Ar raw.length cr, (σ 87)] 26 (0, 0))) ∧ Rd w .u8 (σ 82) (BG ++ raw) ∧ Rd w .u8 (σ 87) BR := hT
                  have hBw : wr.heap.size ≤ w.heap.size := Nat.le_trans (Nat.le_refl _) hE.size
                  exact ⟨rfl, Does.ok (op_assign rfl) ⟨Below.refl _ _, hT, trivial⟩⟩
              case post =>
                intro σ w13 hE13 hT hL
                have hT : (∃ LB, (σ 14) = .slice (some ⟨LB, 0, none⟩) 4 4 ∧ w13.heap[LB]? = some (.cells #[.slice (some ⟨g, 0, none⟩) M cc, (σ 82), .slice Ar raw.length cr, (σ 87)] 26 (0, 0))) ∧ Rd w13 .u8 (σ 82) (BG ++ raw) ∧ Rd w13 .u8 (σ 87) BR := hT
                clear hL
                simp only [putAll, List.map_cons, List.map_nil, List.zip_cons_cons, List.zip_nil_right, List.foldl_cons, List.foldl_nil, Act.put, Option.getD_some, List.setIfInBounds_toArray, List.set_cons_zero, List.set_cons_succ]
                obtain ⟨⟨LB, e14, hLB⟩, hR82, hR87⟩ := hT
                rw [e14]
                have hRc13 := RdC.ext HRc.out hE13
                have hRr13 := RdC.ext HRr.out hE13
                obtain ⟨A2, c2, e2⟩ := hR82.shape
                obtain ⟨A3, c3', e3⟩ := hR87.shape
                rw [e2] at hR82 hLB
                rw [e3] at hR87 hLB
                have HLB := Lib.hid hLB
                have hE3w : Ext w00 w13 := hE3w.trans hE13
                have ROW := Lib.hid (show ∀ i : Nat, i < 4 → ∃ Av nv cv YS, w13.cell? ⟨LB, i, none⟩ = some (.slice Av nv cv) ∧ Rd w13 .u8 (.slice Av nv cv) YS ∧ YS.length ≤ 1000000 ∧ ∀ x ∈ YS, 0 ≤ x ∧ x < 256 by
                  intro i hi
                  rcases (show i = 0 ∨ i = 1 ∨ i = 2 ∨ i = 3 by omega) with rfl | rfl | rfl | rfl
                  · exact ⟨_, _, _, ZS, cell_of_block hLB 0, hRc13, hZl, HZr.out⟩
                  · exact ⟨_, _, _, BG ++ raw, cell_of_block hLB 1, hR82, by rw [List.length_append, HBl.out]; omega, fun x hx => by
                      rcases List.mem_append.1 hx with h | h
                      · exact HBx.out x h
                      · exact Hraw.out x h⟩
                  · exact ⟨_, _, _, raw, cell_of_block hLB 2, hRr13, by omega, Hraw.out⟩
                  · exact ⟨_, _, _, BR, cell_of_block hLB 3, hR87, by rw [HRl.out]; decide, HRx.out⟩)
                clear hLB hR82 hR87 hRc13 hRr13 e14 e2 e3 hE13 HRc HZr HBr HRr HS hZl
                have hl4 := HLB.out
                go_wp2_with fail
                clear hl4
                go_loopw [15] (fun iv wr => ∃ i : Nat, i ≤ 4 ∧ iv = .int .i64 i ∧ Ext w13 wr) (fun iv wr => 4 - (intOf iv).toNat)
                case atStart => exact ⟨0, Nat.zero_le _, rfl, Ext.refl _⟩
                case round =>
                  obtain ⟨i, hi, rfl, hEq⟩ := hrel
                  by_cases hlt : i < 4
                  · obtain ⟨Av, nv, cv, YS, hcl, hRv, hYl, hYr⟩ := ROW.out i hlt
                    have hnv : YS.length = nv := by obtain ⟨A', c', he, _⟩ := hRv; injection he with _ h2 _; exact h2.symm
                    have HRv := Lib.hid (RdC.ext hRv hEq)
                    have hcl := hEq.cell hcl
                    have HYr := Lib.hid hYr
                    clear hRv hYr
                    have hclA : (wr.alloc (.cells #[] 5)).cell? ⟨LB, i, none⟩ = some (.slice Av nv cv) := ((Ext.refl wr).alloc _).cell hcl
                    have tka5 : True := trivial
                    go_wp2_with (at_builtin; have _t := tka5; clear _t; go_must (refine wpList_append_rd (w0 := wr) rfl _ _ 26 5 .u8 1 rfl Try.underlying26 infoU8 (by decide) (.slice (some ⟨wr.heap.size, 0, none⟩) 0 0) (.slice Av nv cv) [] YS rfl rfl (World.ownsRow_lit (base := wr.heap.size) (e := 5) (size := 1) wr #[] 0 (Nat.le_refl _) (Nat.zero_le _) rfl) (RdC.ext HRv.out ((Ext.refl _).alloc _)) ((Ext.refl wr).alloc _) (by simp; omega) ?_); intro vc5 wc5 hOc5 hEc5; have HOc5 := Lib.hid hOc5; clear hOc5 tka5)
                    refine (Parse_calls vc5 ([] ++ YS) wc5 (by simpa using hYl) (ownsRow.reads HOc5.out) (by simpa using HYr.out)).mono ?_
                    rintro e w17 ⟨rfl, hE17⟩
                    rw [List.nil_append]
                    obtain ⟨x1, y1, z1, u1, k1, l1, s1, d1, hps⟩ := parsed_shape YS
                    rw [hps]
                    have HPS := Lib.hid hps
                    obtain ⟨Fv, hFv⟩ : ∃ Q, parseF YS = Q := ⟨_, rfl⟩
                    rw [hFv] at HPS ⊢
                    have hEq2 := (Ext.trans hEc5 hE17)
                    have hcl := hEq2.cell hcl
                    have HRv := Lib.hid (RdC.ext HRv.out hEq2)
                    have hEq := hEq.trans hEq2
                    clear hps hFv hEq2 hE17 hEc5 HOc5 hclA
                    obtain ⟨Bh7, hB7⟩ : ∃ Bh7, w17.heap.size = Bh7 := ⟨_, rfl⟩
                    have Z07 := Lib.hid (show HeadAt ((w17.alloc (.cells (headCells 0 0 0 0) 30)).alloc (.cells (slotCells 0 0 0 (fun _ => 0)) 24)) Bh7 0 0 0 0 by rw [← hB7]; exact (HeadAt.new w17 0 0 0 0).ext ((Ext.refl _).alloc _))
                    have Z17 := Lib.hid (show SlotAt ((w17.alloc (.cells (headCells 0 0 0 0) 30)).alloc (.cells (slotCells 0 0 0 (fun _ => 0)) 24)) (Bh7 + 1) 0 0 0 (fun _ => 0) by
                      rw [← hB7]; have := SlotAt.new (w17.alloc (.cells (headCells 0 0 0 0) 30)) 0 0 0 (fun _ => 0); rwa [World.size_alloc] at this)
                    have hEp7 : Ext w17 ((w17.alloc (.cells (headCells 0 0 0 0) 30)).alloc (.cells (slotCells 0 0 0 (fun _ => 0)) 24)) := ((Ext.refl w17).alloc _).alloc _
                    have Hb7 := Lib.hid hB7
                    clear hB7
                    have tkh7 : True := trivial
                    have tks7 : True := trivial
                    obtain ⟨w18, hw18⟩ : ∃ Q, (((w17.alloc (.cells (headCells 0 0 0 0) 30)).alloc (.cells (slotCells 0 0 0 (fun _ => 0)) 24)).setRow Bh7 (headCells x1 y1 z1 u1)).setRow (Bh7 + 1) (slotCells k1 l1 s1 d1) = Q := ⟨_, rfl⟩
                    have hE78 : Ext w17 w18 := hw18 ▸ ((Ext.refl w17).trans ((hEp7.row (Nat.le_of_eq Hb7.out) _).row (by have := Hb7.out; omega) _))
                    have hcl8 := hE78.cell hcl
                    clear hcl
                    go_wp2_with (first | (have _t := tkh7; clear _t; (try rw [Hb7.out]); refine wpList_store_row rfl 30 _ _ rfl Bh7 (headCells x1 y1 z1 u1) rfl rfl 30 (headCells 0 0 0 0) Z07.out (head_info ..) rfl (head_one ..) ?_; clear tkh7) | (have _t := tks7; clear _t; refine wpList_store_row rfl 24 _ _ rfl (Bh7 + 1) (slotCells k1 l1 s1 d1) rfl rfl 24 (slotCells 0 0 0 (fun _ => 0)) (row_keep Z17.out (by omega)) (slot_info ..) rfl (slot_one ..) ?_; clear tks7))
                    (try rw [hw18])
                    have HH7 := Lib.hid (show HeadAt w18 Bh7 x1 y1 z1 u1 from hw18 ▸ (row_keep (row_at Z07.out) (by omega)))
                    have HS7 := Lib.hid (show SlotAt w18 (Bh7 + 1) k1 l1 s1 d1 from hw18 ▸ (row_at (row_keep Z17.out (by omega))))
                    have HRv := Lib.hid (RdC.ext HRv.out hE78)
                    have hEq := hEq.trans hE78
                    clear hw18 hE78 Z07 Z17 Hb7 hEp7 hcl8
                    refine (DParse_calls _ YS w18 hYl HRv.out HYr.out).mono ?_
                    rintro e w19 ⟨rfl, hE19⟩
                    rw [HPS.out]
                    have HH7 := Lib.hid (HH7.out.ext hE19)
                    have HS7 := Lib.hid (HS7.out.ext hE19)
                    have hEq := hEq.trans hE19
                    have hs7 := HS7.out.lt
                    clear hE19 HRv HYr hYl HPS
                    obtain ⟨Bh9, hB9⟩ : ∃ Bh9, w19.heap.size = Bh9 := ⟨_, rfl⟩
                    have Z09 := Lib.hid (show HeadAt ((w19.alloc (.cells (headCells 0 0 0 0) 30)).alloc (.cells (slotCells 0 0 0 (fun _ => 0)) 24)) Bh9 0 0 0 0 by rw [← hB9]; exact (HeadAt.new w19 0 0 0 0).ext ((Ext.refl _).alloc _))
                    have Z19 := Lib.hid (show SlotAt ((w19.alloc (.cells (headCells 0 0 0 0) 30)).alloc (.cells (slotCells 0 0 0 (fun _ => 0)) 24)) (Bh9 + 1) 0 0 0 (fun _ => 0) by
                      rw [← hB9]; have := SlotAt.new (w19.alloc (.cells (headCells 0 0 0 0) 30)) 0 0 0 (fun _ => 0); rwa [World.size_alloc] at this)
                    have hEp9 : Ext w19 ((w19.alloc (.cells (headCells 0 0 0 0) 30)).alloc (.cells (slotCells 0 0 0 (fun _ => 0)) 24)) := ((Ext.refl w19).alloc _).alloc _
                    have Hb9 := Lib.hid hB9
                    clear hB9
                    have tkh9 : True := trivial
                    have tks9 : True := trivial
                    have qh : ∀ w, (Op.equalIn 10000 30 (headVal x1 y1 z1 u1) (headVal x1 y1 z1 u1)).run Try.prog w = .ok true w := fun w => by rw [eq_head]; simp [headB]
                    have qs : ∀ w, (Op.equalIn 10000 24 (slotVal k1 l1 s1 d1) (slotVal k1 l1 s1 d1)).run Try.prog w = .ok true w := fun w => by rw [eq_slot]; simp [slotB]
                    have q9 : ∀ w, (Op.equalIn 9999 22 (.agg (dataCells d1)) (.agg (dataCells d1))).run Try.prog w = .ok true w := fun w => by rw [eq_data9]; simp
                    have tq0 : True := trivial
                    have NHH7 := Lib.hid (show Bh7 ≠ Bh9 by have := Hb9.out; omega)
                    have MHH7 := Lib.hid (show Bh7 ≠ Bh9 + 1 by have := Hb9.out; omega)
                    have NHS7 := Lib.hid (show Bh7 + 1 ≠ Bh9 by have := Hb9.out; omega)
                    have MHS7 := Lib.hid (show Bh7 + 1 ≠ Bh9 + 1 by have := Hb9.out; omega)
                    clear hs7
                    go_wp2_with (first | (have _t := tq0; clear _t; (try rw [Hb9.out]); refine wpList_store_row rfl 30 _ _ rfl Bh9 (headCells x1 y1 z1 u1) rfl rfl 30 (headCells 0 0 0 0) Z09.out (head_info ..) rfl (head_one ..) ?_; clear tq0; have tq1 : True := trivial) | (have _t := tq1; clear _t; refine wpList_store_row rfl 24 _ _ rfl (Bh9 + 1) (slotCells k1 l1 s1 d1) rfl rfl 24 (slotCells 0 0 0 (fun _ => 0)) (row_keep Z19.out (by omega)) (slot_info ..) rfl (slot_one ..) ?_; clear tq1; have tq2 : True := trivial) | (have _t := tq2; clear _t; refine wpList_load_row rfl 30 _ rfl Bh7 rfl 30 (headCells x1 y1 z1 u1) (0, 0) _ (row_keep (row_keep (HH7.out.ext hEp9) NHH7.out) MHH7.out) Try.underlying30 rfl (head_info ..) ?_; clear tq2; have tq3 : True := trivial) | (have _t := tq3; clear _t; refine wpList_load_row rfl 30 _ rfl Bh9 rfl 30 (headCells x1 y1 z1 u1) (0, 0) _ (row_keep (row_at Z09.out) (by omega)) Try.underlying30 rfl (head_info ..) ?_; clear tq3; have tq4 : True := trivial) | (have _t := tq4; clear _t; refine wpList_load_rowg (by rfl) 24 _ rfl (Bh7 + 1) rfl 24 (slotCells k1 l1 s1 d1) (0, 0) _ (row_keep (row_keep (HS7.out.ext hEp9) NHS7.out) MHS7.out) Try.underlying24 rfl (slot_info ..) ?_; clear tq4; have tq5 : True := trivial) | (have _t := tq5; clear _t; refine wpList_load_rowg (by rfl) 24 _ rfl (Bh9 + 1) rfl 24 (slotCells k1 l1 s1 d1) (0, 0) _ (row_at (row_keep Z19.out (by omega))) Try.underlying24 rfl (slot_info ..) ?_; clear tq5))
                    go_roundw
                    case rel => exact ⟨i + 1, by omega, by go_num, hEq.trans ((Ext.refl w19).trans ((hEp9.row (Nat.le_of_eq Hb9.out) _).row (by have := Hb9.out; omega) _))⟩
                    case measure => simp [intOf]; omega
                  · obtain rfl : i = 4 := by omega
                    rw [show ((4 : Nat) : Int) = 4 from rfl]
                    go_wp2_with fail
                    go_ret
                    exact ⟨rfl, hE3w.trans hEq⟩
            · have hmb : (Int.tmod cut 3 == 1) = false := beq_eq_false_iff_ne.2 hm
              clear hm
              go_wp2_with fail
              clear hmb
              have hRc : Rd wr .u8 (.slice (some ⟨g, 0, none⟩) 48 cc) (XS.take 48) := by
                have h := ownsRow.reads HO.out
                have h2 : Rd wr .u8 (.slice (some ⟨g, 0, none⟩) 48 cc) (XS.take 48 ++ XS.drop 48) := by rw [List.take_append_drop]; exact h
                exact Rd.len (rd_left h2) (by rw [List.length_take, HXl.out]; omega)
              have hZl : (XS.take 48).length ≤ 1000000 := by rw [List.length_take, HXl.out]; omega
              have hZr : ∀ x ∈ XS.take 48, 0 ≤ x ∧ x < 256 := fun x hx => HXr.out x (List.mem_of_mem_take hx)
              obtain ⟨ZS, hZS⟩ : ∃ Q, XS.take 48 = Q := ⟨_, rfl⟩
              rw [hZS] at hRc hZl hZr
              have HRc := Lib.hid hRc
              have HZr := Lib.hid hZr
              have HS := Lib.hid (HS.out.ext hE3)
              have HBr := Lib.hid (RdC.ext HBr.out hE3)
              have HRr := Lib.hid (RdC.ext HRr.out hE3)
              have hE3w := hE.trans hE3
              clear hRc hZr hZS HO HXl HXr hE3
              refine wp_region_schain mixed [1, 3, 5, 10, 11, 12]
                  [(· = .slice (some ⟨g, 0, none⟩) 48 cc),
                   (fun _ => True),
                   (· = .slice (some ⟨g3, 0, none⟩) 48 c3),
                   (fun _ => True),
                   (· = .slice Ar raw.length cr),
                   (fun _ => True),
                   (· = .slice Ar raw.length cr),
                   (· = .int .i64 cut),
                   (· = headVal cut 0 0 0),
                   (· = slotVal k l s d),
                   (fun _ => True),
                   (fun _ => True),
                   (fun _ => True)]
                  (wr.heap.size) (fun kk vv ww => match kk with | 0 => True | 1 => Own ww wr.heap.size 5 .u8 (vv 0) ([]) | 2 => Own ww wr.heap.size 5 .u8 (vv 1) (BG) | 3 => Own ww wr.heap.size 5 .u8 (vv 2) (BG ++ raw) | 4 => Rd ww .u8 (vv 2) (BG ++ raw) ∧ Rd ww .u8 (vv 3) BR | 5 => (∃ LB, (vv 4) = .slice (some ⟨LB, 0, none⟩) 4 4 ∧ ww.heap[LB]? = some (.cells #[.slice (some ⟨g, 0, none⟩) 48 cc, (vv 2), .slice Ar raw.length cr, (vv 3)] 26 (0, 0))) ∧ Rd ww .u8 (vv 2) (BG ++ raw) ∧ Rd ww .u8 (vv 3) BR | _ => (∃ LB, (vv 5) = .slice (some ⟨LB, 0, none⟩) 4 4 ∧ ww.heap[LB]? = some (.cells #[.slice (some ⟨g, 0, none⟩) 48 cc, (vv 2), .slice Ar raw.length cr, (vv 3)] 26 (0, 0))) ∧ Rd ww .u8 (vv 2) (BG ++ raw) ∧ Rd ww .u8 (vv 3) BR)
                  (by kernel_rfl) (by kernel_rfl) (by decide) ?start ?steps ?post
              case start => intro _; trivial
              case steps =>
                refine ⟨?_, ?_, ?_, ?_, ?_, ?_, ?_, ?_, ?_, ?_, ?_, ?_, ?_, trivial⟩
                · refine schain_pure (by kernel_rfl) fun σ w hE hold late hk => ?_
                  have h12 : σ 12 = .slice (some ⟨g, 0, none⟩) 48 cc := hold 12 (by kernel_rfl)
                  exact ⟨rfl, _, op_move rfl, h12⟩
                · refine schain_turn (k := 0) (by kernel_rfl) fun σ w hE hold late hk hT => ?_
                  have hT : True := hT
                  have hBw : wr.heap.size ≤ w.heap.size := Nat.le_trans (Nat.le_refl _) hE.size
                  have hO : Own (w.alloc (.cells #[] 5)) w.heap.size 5 .u8 (.slice (some ⟨w.heap.size, 0, none⟩) 0 0) [] := World.ownsRow_lit w #[] 0 (Nat.le_refl _) (Nat.zero_le _) rfl
                  exact ⟨rfl, Does.ok (op_lit0 rfl Try.underlying26 infoU8) ⟨((Ext.refl w).alloc _).mono hBw, ownsRow.base hO hBw, trivial⟩⟩
                · refine schain_pure (by kernel_rfl) fun σ w hE hold late hk => ?_
                  have h11 : σ 11 = .slice (some ⟨g3, 0, none⟩) 48 c3 := hold 11 (by kernel_rfl)
                  exact ⟨rfl, _, op_move rfl, h11⟩
                · refine schain_turn (k := 1) (by kernel_rfl) fun σ w hE hold late hk hT => ?_
                  have hT : Own w wr.heap.size 5 .u8 (σ 78) ([]) := hT
                  have hBw : wr.heap.size ≤ w.heap.size := Nat.le_trans (Nat.le_refl _) hE.size
                  have h79 : σ 79 = .slice (some ⟨g3, 0, none⟩) 48 c3 := hk.2.1
                  obtain ⟨v', w', hrun, hO', hG⟩ := run_append_num (P := Try.prog) w wr.heap.size 26 26 5 .u8 1 Try.underlying26 infoU8 (by decide) (σ 78) ([]) hT (.slice (some ⟨g3, 0, none⟩) 48 c3) (BG) (RdC.ext HBr.out hE) (by rw [HBl.out]; decide) hBw
                  exact ⟨rfl, Does.ok (op_append rfl rfl h79 hrun) ⟨hG.below hBw (fun q hq => (hT.lt q hq).1), (show Own w' wr.heap.size 5 .u8 v' (BG) from by simpa using hO'), trivial⟩⟩
                · refine schain_pure (by kernel_rfl) fun σ w hE hold late hk => ?_
                  have h4 : σ 4 = .slice Ar raw.length cr := hold 4 (by kernel_rfl)
                  exact ⟨rfl, _, op_move rfl, h4⟩
                · refine schain_turn (k := 2) (by kernel_rfl) fun σ w hE hold late hk hT => ?_
                  have hT : Own w wr.heap.size 5 .u8 (σ 80) (BG) := hT
                  have hBw : wr.heap.size ≤ w.heap.size := Nat.le_trans (Nat.le_refl _) hE.size
                  have h81 : σ 81 = .slice Ar raw.length cr := hk.2.1
                  obtain ⟨v', w', hrun, hO', hG⟩ := run_append_num (P := Try.prog) w wr.heap.size 26 26 5 .u8 1 Try.underlying26 infoU8 (by decide) (σ 80) (BG) hT (.slice Ar raw.length cr) (raw) (RdC.ext HRr.out hE) (by rw [HBl.out]; omega) hBw
                  exact ⟨rfl, Does.ok (op_append rfl rfl h81 hrun) ⟨hG.below hBw (fun q hq => (hT.lt q hq).1), (show Own w' wr.heap.size 5 .u8 v' (BG ++ raw) from by simpa using hO'), trivial⟩⟩
                · refine schain_pure (by kernel_rfl) fun σ w hE hold late hk => ?_
                  have h4 : σ 4 = .slice Ar raw.length cr := hold 4 (by kernel_rfl)
                  exact ⟨rfl, _, op_move rfl, h4⟩
                · refine schain_pure (by kernel_rfl) fun σ w hE hold late hk => ?_
                  have h3 : σ 3 = .int .i64 cut := hold 3 (by kernel_rfl)
                  exact ⟨rfl, _, op_move rfl, h3⟩
                · refine schain_pure (by kernel_rfl) fun σ w hE hold late hk => ?_
                  have h84 : σ 84 = .int .i64 cut := hk.1
                  exact ⟨rfl, _, op_build 30 _ rfl (headCells cut 0 0 0) (by simp only [List.map_toArray, List.map_cons, List.map_nil]; show Try.prog.built _ [(0, σ 84)] = _; rw [h84]; exact built_head1 _), rfl⟩
                · refine schain_pure (by kernel_rfl) fun σ w hE hold late hk => ?_
                  have h5 : σ 5 = .pointer (some ⟨B, 0, none⟩) := hold 5 (by kernel_rfl)
                  exact ⟨rfl, _, op_load_slot rfl h5 (HS.out.ext hE), rfl⟩
                · refine schain_turn (k := 3) (by kernel_rfl) fun σ w hE hold late hk hT => ?_
                  have hT : Own w wr.heap.size 5 .u8 (σ 82) (BG ++ raw) := hT
                  have hBw : wr.heap.size ≤ w.heap.size := Nat.le_trans (Nat.le_refl _) hE.size
                  have h85 : σ 85 = headVal cut 0 0 0 := hk.1
                  have h86 : σ 86 = slotVal k l s d := hk.2.1
                  refine ⟨rfl, Does.call (op_call2 rfl Try.func11 (by kernel_rfl) (by kernel_rfl) h85 h86) (DBytes_calls cut 0 0 0 k l s d w) ?_⟩
                  rintro e w' ⟨v', rfl, hO', hE'⟩
                  exact ⟨v', rfl, hE'.mono hBw, ⟨RdC.ext (ownsRow.reads hT) hE', HBR.out ▸ ownsRow.reads hO'⟩, trivial⟩
                · refine schain_turn (k := 4) (by kernel_rfl) fun σ w hE hold late hk hT => ?_
                  have hT : Rd w .u8 (σ 82) (BG ++ raw) ∧ Rd w .u8 (σ 87) BR := hT
                  have hBw : wr.heap.size ≤ w.heap.size := Nat.le_trans (Nat.le_refl _) hE.size
                  have h77 : σ 77 = .slice (some ⟨g, 0, none⟩) 48 cc := hk.1
                  have h83 : σ 83 = .slice Ar raw.length cr := hk.2.2.1
                  obtain ⟨A2, c2, e2⟩ := hT.1.shape
                  obtain ⟨A3, c3', e3⟩ := hT.2.shape
                  exact ⟨rfl, Does.ok (w' := w.alloc (.cells #[.slice (some ⟨g, 0, none⟩) 48 cc, .slice A2 (BG ++ raw).length c2, .slice Ar raw.length cr, .slice A3 BR.length c3'] 26)) (v := .slice (some ⟨w.heap.size, 0, none⟩) 4 4) (by go_simp) ⟨((Ext.refl w).alloc _).mono hBw, ⟨⟨w.heap.size, rfl, by rw [show upd (valsAt _ _ σ) 4 _ 2 = σ 82 from rfl, show upd (valsAt _ _ σ) 4 _ 3 = σ 87 from rfl, e2, e3]; exact heap_alloc_new w _⟩, RdC.ext hT.1 ((Ext.refl w).alloc _), RdC.ext hT.2 ((Ext.refl w).alloc _)⟩, trivial⟩⟩
                · refine schain_turn (k := 5) (by kernel_rfl) fun σ w hE hold late hk hT => ?_
                  have hT : (∃ LB, (σ 88) = .slice (some ⟨LB, 0, none⟩) 4 4 ∧ w.heap[LB]? = some (.cells #[.slice (some ⟨g, 0, none⟩) 48 cc, (σ 82), .slice Ar raw.length cr, (σ 87)] 26 (0, 0))) ∧ Rd w .u8 (σ 82) (BG ++ raw) ∧ Rd w .u8 (σ 87) BR := hT
                  have hBw : wr.heap.size ≤ w.heap.size := Nat.le_trans (Nat.le_refl _) hE.size
                  exact ⟨rfl, Does.ok (op_assign rfl) ⟨Below.refl _ _, hT, trivial⟩⟩
              case post =>
                intro σ w13 hE13 hT hL
                have hT : (∃ LB, (σ 14) = .slice (some ⟨LB, 0, none⟩) 4 4 ∧ w13.heap[LB]? = some (.cells #[.slice (some ⟨g, 0, none⟩) 48 cc, (σ 82), .slice Ar raw.length cr, (σ 87)] 26 (0, 0))) ∧ Rd w13 .u8 (σ 82) (BG ++ raw) ∧ Rd w13 .u8 (σ 87) BR := hT
                clear hL
                simp only [putAll, List.map_cons, List.map_nil, List.zip_cons_cons, List.zip_nil_right, List.foldl_cons, List.foldl_nil, Act.put, Option.getD_some, List.setIfInBounds_toArray, List.set_cons_zero, List.set_cons_succ]
                obtain ⟨⟨LB, e14, hLB⟩, hR82, hR87⟩ := hT
                rw [e14]
                have hRc13 := RdC.ext HRc.out hE13
                have hRr13 := RdC.ext HRr.out hE13
                obtain ⟨A2, c2, e2⟩ := hR82.shape
                obtain ⟨A3, c3', e3⟩ := hR87.shape
                rw [e2] at hR82 hLB
                rw [e3] at hR87 hLB
                have HLB := Lib.hid hLB
                have hE3w : Ext w00 w13 := hE3w.trans hE13
                have ROW := Lib.hid (show ∀ i : Nat, i < 4 → ∃ Av nv cv YS, w13.cell? ⟨LB, i, none⟩ = some (.slice Av nv cv) ∧ Rd w13 .u8 (.slice Av nv cv) YS ∧ YS.length ≤ 1000000 ∧ ∀ x ∈ YS, 0 ≤ x ∧ x < 256 by
                  intro i hi
                  rcases (show i = 0 ∨ i = 1 ∨ i = 2 ∨ i = 3 by omega) with rfl | rfl | rfl | rfl
                  · exact ⟨_, _, _, ZS, cell_of_block hLB 0, hRc13, hZl, HZr.out⟩
                  · exact ⟨_, _, _, BG ++ raw, cell_of_block hLB 1, hR82, by rw [List.length_append, HBl.out]; omega, fun x hx => by
                      rcases List.mem_append.1 hx with h | h
                      · exact HBx.out x h
                      · exact Hraw.out x h⟩
                  · exact ⟨_, _, _, raw, cell_of_block hLB 2, hRr13, by omega, Hraw.out⟩
                  · exact ⟨_, _, _, BR, cell_of_block hLB 3, hR87, by rw [HRl.out]; decide, HRx.out⟩)
                clear hLB hR82 hR87 hRc13 hRr13 e14 e2 e3 hE13 HRc HZr HBr HRr HS hZl
                have hl4 := HLB.out
                go_wp2_with fail
                clear hl4
                go_loopw [15] (fun iv wr => ∃ i : Nat, i ≤ 4 ∧ iv = .int .i64 i ∧ Ext w13 wr) (fun iv wr => 4 - (intOf iv).toNat)
                case atStart => exact ⟨0, Nat.zero_le _, rfl, Ext.refl _⟩
                case round =>
                  obtain ⟨i, hi, rfl, hEq⟩ := hrel
                  by_cases hlt : i < 4
                  · obtain ⟨Av, nv, cv, YS, hcl, hRv, hYl, hYr⟩ := ROW.out i hlt
                    have hnv : YS.length = nv := by obtain ⟨A', c', he, _⟩ := hRv; injection he with _ h2 _; exact h2.symm
                    have HRv := Lib.hid (RdC.ext hRv hEq)
                    have hcl := hEq.cell hcl
                    have HYr := Lib.hid hYr
                    clear hRv hYr
                    have hclA : (wr.alloc (.cells #[] 5)).cell? ⟨LB, i, none⟩ = some (.slice Av nv cv) := ((Ext.refl wr).alloc _).cell hcl
                    have tka5 : True := trivial
                    go_wp2_with (at_builtin; have _t := tka5; clear _t; go_must (refine wpList_append_rd (w0 := wr) rfl _ _ 26 5 .u8 1 rfl Try.underlying26 infoU8 (by decide) (.slice (some ⟨wr.heap.size, 0, none⟩) 0 0) (.slice Av nv cv) [] YS rfl rfl (World.ownsRow_lit (base := wr.heap.size) (e := 5) (size := 1) wr #[] 0 (Nat.le_refl _) (Nat.zero_le _) rfl) (RdC.ext HRv.out ((Ext.refl _).alloc _)) ((Ext.refl wr).alloc _) (by simp; omega) ?_); intro vc5 wc5 hOc5 hEc5; have HOc5 := Lib.hid hOc5; clear hOc5 tka5)
                    refine (Parse_calls vc5 ([] ++ YS) wc5 (by simpa using hYl) (ownsRow.reads HOc5.out) (by simpa using HYr.out)).mono ?_
                    rintro e w17 ⟨rfl, hE17⟩
                    rw [List.nil_append]
                    obtain ⟨x1, y1, z1, u1, k1, l1, s1, d1, hps⟩ := parsed_shape YS
                    rw [hps]
                    have HPS := Lib.hid hps
                    obtain ⟨Fv, hFv⟩ : ∃ Q, parseF YS = Q := ⟨_, rfl⟩
                    rw [hFv] at HPS ⊢
                    have hEq2 := (Ext.trans hEc5 hE17)
                    have hcl := hEq2.cell hcl
                    have HRv := Lib.hid (RdC.ext HRv.out hEq2)
                    have hEq := hEq.trans hEq2
                    clear hps hFv hEq2 hE17 hEc5 HOc5 hclA
                    obtain ⟨Bh7, hB7⟩ : ∃ Bh7, w17.heap.size = Bh7 := ⟨_, rfl⟩
                    have Z07 := Lib.hid (show HeadAt ((w17.alloc (.cells (headCells 0 0 0 0) 30)).alloc (.cells (slotCells 0 0 0 (fun _ => 0)) 24)) Bh7 0 0 0 0 by rw [← hB7]; exact (HeadAt.new w17 0 0 0 0).ext ((Ext.refl _).alloc _))
                    have Z17 := Lib.hid (show SlotAt ((w17.alloc (.cells (headCells 0 0 0 0) 30)).alloc (.cells (slotCells 0 0 0 (fun _ => 0)) 24)) (Bh7 + 1) 0 0 0 (fun _ => 0) by
                      rw [← hB7]; have := SlotAt.new (w17.alloc (.cells (headCells 0 0 0 0) 30)) 0 0 0 (fun _ => 0); rwa [World.size_alloc] at this)
                    have hEp7 : Ext w17 ((w17.alloc (.cells (headCells 0 0 0 0) 30)).alloc (.cells (slotCells 0 0 0 (fun _ => 0)) 24)) := ((Ext.refl w17).alloc _).alloc _
                    have Hb7 := Lib.hid hB7
                    clear hB7
                    have tkh7 : True := trivial
                    have tks7 : True := trivial
                    obtain ⟨w18, hw18⟩ : ∃ Q, (((w17.alloc (.cells (headCells 0 0 0 0) 30)).alloc (.cells (slotCells 0 0 0 (fun _ => 0)) 24)).setRow Bh7 (headCells x1 y1 z1 u1)).setRow (Bh7 + 1) (slotCells k1 l1 s1 d1) = Q := ⟨_, rfl⟩
                    have hE78 : Ext w17 w18 := hw18 ▸ ((Ext.refl w17).trans ((hEp7.row (Nat.le_of_eq Hb7.out) _).row (by have := Hb7.out; omega) _))
                    have hcl8 := hE78.cell hcl
                    clear hcl
                    go_wp2_with (first | (have _t := tkh7; clear _t; (try rw [Hb7.out]); refine wpList_store_row rfl 30 _ _ rfl Bh7 (headCells x1 y1 z1 u1) rfl rfl 30 (headCells 0 0 0 0) Z07.out (head_info ..) rfl (head_one ..) ?_; clear tkh7) | (have _t := tks7; clear _t; refine wpList_store_row rfl 24 _ _ rfl (Bh7 + 1) (slotCells k1 l1 s1 d1) rfl rfl 24 (slotCells 0 0 0 (fun _ => 0)) (row_keep Z17.out (by omega)) (slot_info ..) rfl (slot_one ..) ?_; clear tks7))
                    (try rw [hw18])
                    have HH7 := Lib.hid (show HeadAt w18 Bh7 x1 y1 z1 u1 from hw18 ▸ (row_keep (row_at Z07.out) (by omega)))
                    have HS7 := Lib.hid (show SlotAt w18 (Bh7 + 1) k1 l1 s1 d1 from hw18 ▸ (row_at (row_keep Z17.out (by omega))))
                    have HRv := Lib.hid (RdC.ext HRv.out hE78)
                    have hEq := hEq.trans hE78
                    clear hw18 hE78 Z07 Z17 Hb7 hEp7 hcl8
                    refine (DParse_calls _ YS w18 hYl HRv.out HYr.out).mono ?_
                    rintro e w19 ⟨rfl, hE19⟩
                    rw [HPS.out]
                    have HH7 := Lib.hid (HH7.out.ext hE19)
                    have HS7 := Lib.hid (HS7.out.ext hE19)
                    have hEq := hEq.trans hE19
                    have hs7 := HS7.out.lt
                    clear hE19 HRv HYr hYl HPS
                    obtain ⟨Bh9, hB9⟩ : ∃ Bh9, w19.heap.size = Bh9 := ⟨_, rfl⟩
                    have Z09 := Lib.hid (show HeadAt ((w19.alloc (.cells (headCells 0 0 0 0) 30)).alloc (.cells (slotCells 0 0 0 (fun _ => 0)) 24)) Bh9 0 0 0 0 by rw [← hB9]; exact (HeadAt.new w19 0 0 0 0).ext ((Ext.refl _).alloc _))
                    have Z19 := Lib.hid (show SlotAt ((w19.alloc (.cells (headCells 0 0 0 0) 30)).alloc (.cells (slotCells 0 0 0 (fun _ => 0)) 24)) (Bh9 + 1) 0 0 0 (fun _ => 0) by
                      rw [← hB9]; have := SlotAt.new (w19.alloc (.cells (headCells 0 0 0 0) 30)) 0 0 0 (fun _ => 0); rwa [World.size_alloc] at this)
                    have hEp9 : Ext w19 ((w19.alloc (.cells (headCells 0 0 0 0) 30)).alloc (.cells (slotCells 0 0 0 (fun _ => 0)) 24)) := ((Ext.refl w19).alloc _).alloc _
                    have Hb9 := Lib.hid hB9
                    clear hB9
                    have tkh9 : True := trivial
                    have tks9 : True := trivial
                    have qh : ∀ w, (Op.equalIn 10000 30 (headVal x1 y1 z1 u1) (headVal x1 y1 z1 u1)).run Try.prog w = .ok true w := fun w => by rw [eq_head]; simp [headB]
                    have qs : ∀ w, (Op.equalIn 10000 24 (slotVal k1 l1 s1 d1) (slotVal k1 l1 s1 d1)).run Try.prog w = .ok true w := fun w => by rw [eq_slot]; simp [slotB]
                    have q9 : ∀ w, (Op.equalIn 9999 22 (.agg (dataCells d1)) (.agg (dataCells d1))).run Try.prog w = .ok true w := fun w => by rw [eq_data9]; simp
                    have tq0 : True := trivial
                    have NHH7 := Lib.hid (show Bh7 ≠ Bh9 by have := Hb9.out; omega)
                    have MHH7 := Lib.hid (show Bh7 ≠ Bh9 + 1 by have := Hb9.out; omega)
                    have NHS7 := Lib.hid (show Bh7 + 1 ≠ Bh9 by have := Hb9.out; omega)
                    have MHS7 := Lib.hid (show Bh7 + 1 ≠ Bh9 + 1 by have := Hb9.out; omega)
                    clear hs7
                    go_wp2_with (first | (have _t := tq0; clear _t; (try rw [Hb9.out]); refine wpList_store_row rfl 30 _ _ rfl Bh9 (headCells x1 y1 z1 u1) rfl rfl 30 (headCells 0 0 0 0) Z09.out (head_info ..) rfl (head_one ..) ?_; clear tq0; have tq1 : True := trivial) | (have _t := tq1; clear _t; refine wpList_store_row rfl 24 _ _ rfl (Bh9 + 1) (slotCells k1 l1 s1 d1) rfl rfl 24 (slotCells 0 0 0 (fun _ => 0)) (row_keep Z19.out (by omega)) (slot_info ..) rfl (slot_one ..) ?_; clear tq1; have tq2 : True := trivial) | (have _t := tq2; clear _t; refine wpList_load_row rfl 30 _ rfl Bh7 rfl 30 (headCells x1 y1 z1 u1) (0, 0) _ (row_keep (row_keep (HH7.out.ext hEp9) NHH7.out) MHH7.out) Try.underlying30 rfl (head_info ..) ?_; clear tq2; have tq3 : True := trivial) | (have _t := tq3; clear _t; refine wpList_load_row rfl 30 _ rfl Bh9 rfl 30 (headCells x1 y1 z1 u1) (0, 0) _ (row_keep (row_at Z09.out) (by omega)) Try.underlying30 rfl (head_info ..) ?_; clear tq3; have tq4 : True := trivial) | (have _t := tq4; clear _t; refine wpList_load_rowg (by rfl) 24 _ rfl (Bh7 + 1) rfl 24 (slotCells k1 l1 s1 d1) (0, 0) _ (row_keep (row_keep (HS7.out.ext hEp9) NHS7.out) MHS7.out) Try.underlying24 rfl (slot_info ..) ?_; clear tq4; have tq5 : True := trivial) | (have _t := tq5; clear _t; refine wpList_load_rowg (by rfl) 24 _ rfl (Bh9 + 1) rfl 24 (slotCells k1 l1 s1 d1) (0, 0) _ (row_at (row_keep Z19.out (by omega))) Try.underlying24 rfl (slot_info ..) ?_; clear tq5))
                    go_roundw
                    case rel => exact ⟨i + 1, by omega, by go_num, hEq.trans ((Ext.refl w19).trans ((hEp9.row (Nat.le_of_eq Hb9.out) _).row (by have := Hb9.out; omega) _))⟩
                    case measure => simp [intOf]; omega
                  · obtain rfl : i = 4 := by omega
                    rw [show ((4 : Nat) : Int) = 4 from rfl]
                    go_wp2_with fail
                    go_ret
                    exact ⟨rfl, hE3w.trans hEq⟩
        · skip
          by_cases hm : Int.tmod cut 3 = 1
          · go_wp2_with fail
            obtain ⟨QC, hQC⟩ : ∃ Q, wrap64 (Int.tdiv cut 3) = Q := ⟨_, rfl⟩
            have hQr : -9223372036854775808 ≤ QC ∧ QC ≤ 9223372036854775807 := by rw [← hQC]; unfold wrap64; omega
            rw [hQC]
            clear hQC
            refine (within_calls QC 49 wr (by decide) (by decide) hQr).mono ?_
            rintro e w' ⟨rfl, rfl⟩
            obtain ⟨M, hM⟩ : ∃ M : Nat, QC % 49 = M := ⟨(QC % 49).toNat, by omega⟩
            have hM1 : M ≤ 48 := by omega
            rw [hM]
            clear hM hQr hm
            go_wp2_with fail
            have hRc : Rd wr .u8 (.slice (some ⟨g, 0, none⟩) M cc) (XS.take M) := by
              have h := ownsRow.reads HO.out
              have h2 : Rd wr .u8 (.slice (some ⟨g, 0, none⟩) 48 cc) (XS.take M ++ XS.drop M) := by rw [List.take_append_drop]; exact h
              exact Rd.len (rd_left h2) (by rw [List.length_take, HXl.out]; omega)
            have hZl : (XS.take M).length ≤ 1000000 := by rw [List.length_take, HXl.out]; omega
            have hZr : ∀ x ∈ XS.take M, 0 ≤ x ∧ x < 256 := fun x hx => HXr.out x (List.mem_of_mem_take hx)
            obtain ⟨ZS, hZS⟩ : ∃ Q, XS.take M = Q := ⟨_, rfl⟩
            rw [hZS] at hRc hZl hZr
            have HRc := Lib.hid hRc
            have HZr := Lib.hid hZr
            have HS := Lib.hid (HS.out.ext hE3)
            have HBr := Lib.hid (RdC.ext HBr.out hE3)
            have HRr := Lib.hid (RdC.ext HRr.out hE3)
            have hE3w := hE.trans hE3
            clear hRc hZr hZS HO HXl HXr hE3
            refine wp_region_schain mixed [1, 3, 5, 10, 11, 12]
                [(· = .slice (some ⟨g, 0, none⟩) M cc),
                 (fun _ => True),
                 (· = .slice (some ⟨g3, 0, none⟩) 48 c3),
                 (fun _ => True),
                 (· = .slice Ar raw.length cr),
                 (fun _ => True),
                 (· = .slice Ar raw.length cr),
                 (· = .int .i64 cut),
                 (· = headVal cut 0 0 0),
                 (· = slotVal k l s d),
                 (fun _ => True),
                 (fun _ => True),
                 (fun _ => True)]
                (wr.heap.size) (fun kk vv ww => match kk with | 0 => True | 1 => Own ww wr.heap.size 5 .u8 (vv 0) ([]) | 2 => Own ww wr.heap.size 5 .u8 (vv 1) (BG) | 3 => Own ww wr.heap.size 5 .u8 (vv 2) (BG ++ raw) | 4 => Rd ww .u8 (vv 2) (BG ++ raw) ∧ Rd ww .u8 (vv 3) BR | 5 => (∃ LB, (vv 4) = .slice (some ⟨LB, 0, none⟩) 4 4 ∧ ww.heap[LB]? = some (.cells #[.slice (some ⟨g, 0, none⟩) M cc, (vv 2), .slice Ar raw.length cr, (vv 3)] 26 (0, 0))) ∧ Rd ww .u8 (vv 2) (BG ++ raw) ∧ Rd ww .u8 (vv 3) BR | _ => (∃ LB, (vv 5) = .slice (some ⟨LB, 0, none⟩) 4 4 ∧ ww.heap[LB]? = some (.cells #[.slice (some ⟨g, 0, none⟩) M cc, (vv 2), .slice Ar raw.length cr, (vv 3)] 26 (0, 0))) ∧ Rd ww .u8 (vv 2) (BG ++ raw) ∧ Rd ww .u8 (vv 3) BR)
                (by kernel_rfl) (by kernel_rfl) (by decide) ?start ?steps ?post
            case start => intro _; trivial
            case steps =>
              refine ⟨?_, ?_, ?_, ?_, ?_, ?_, ?_, ?_, ?_, ?_, ?_, ?_, ?_, trivial⟩
              · refine schain_pure (by kernel_rfl) fun σ w hE hold late hk => ?_
                have h12 : σ 12 = .slice (some ⟨g, 0, none⟩) M cc := hold 12 (by kernel_rfl)
                exact ⟨rfl, _, op_move rfl, h12⟩
              · refine schain_turn (k := 0) (by kernel_rfl) fun σ w hE hold late hk hT => ?_
                have hT : True := hT
                have hBw : wr.heap.size ≤ w.heap.size := Nat.le_trans (Nat.le_refl _) hE.size
                have hO : Own (w.alloc (.cells #[] 5)) w.heap.size 5 .u8 (.slice (some ⟨w.heap.size, 0, none⟩) 0 0) [] := World.ownsRow_lit w #[] 0 (Nat.le_refl _) (Nat.zero_le _) rfl
                exact ⟨rfl, Does.ok (op_lit0 rfl Try.underlying26 infoU8) ⟨((Ext.refl w).alloc _).mono hBw, ownsRow.base hO hBw, trivial⟩⟩
              · refine schain_pure (by kernel_rfl) fun σ w hE hold late hk => ?_
                have h11 : σ 11 = .slice (some ⟨g3, 0, none⟩) 48 c3 := hold 11 (by kernel_rfl)
                exact ⟨rfl, _, op_move rfl, h11⟩
              · refine schain_turn (k := 1) (by kernel_rfl) fun σ w hE hold late hk hT => ?_
                have hT : Own w wr.heap.size 5 .u8 (σ 78) ([]) := hT
                have hBw : wr.heap.size ≤ w.heap.size := Nat.le_trans (Nat.le_refl _) hE.size
                have h79 : σ 79 = .slice (some ⟨g3, 0, none⟩) 48 c3 := hk.2.1
                obtain ⟨v', w', hrun, hO', hG⟩ := run_append_num (P := Try.prog) w wr.heap.size 26 26 5 .u8 1 Try.underlying26 infoU8 (by decide) (σ 78) ([]) hT (.slice (some ⟨g3, 0, none⟩) 48 c3) (BG) (RdC.ext HBr.out hE) (by rw [HBl.out]; decide) hBw
                exact ⟨rfl, Does.ok (op_append rfl rfl h79 hrun) ⟨hG.below hBw (fun q hq => (hT.lt q hq).1), (show Own w' wr.heap.size 5 .u8 v' (BG) from by simpa using hO'), trivial⟩⟩
              · refine schain_pure (by kernel_rfl) fun σ w hE hold late hk => ?_
                have h4 : σ 4 = .slice Ar raw.length cr := hold 4 (by kernel_rfl)
                exact ⟨rfl, _, op_move rfl, h4⟩
              · refine schain_turn (k := 2) (by kernel_rfl) fun σ w hE hold late hk hT => ?_
                have hT : Own w wr.heap.size 5 .u8 (σ 80) (BG) := hT
                have hBw : wr.heap.size ≤ w.heap.size := Nat.le_trans (Nat.le_refl _) hE.size
                have h81 : σ 81 = .slice Ar raw.length cr := hk.2.1
                obtain ⟨v', w', hrun, hO', hG⟩ := run_append_num (P := Try.prog) w wr.heap.size 26 26 5 .u8 1 Try.underlying26 infoU8 (by decide) (σ 80) (BG) hT (.slice Ar raw.length cr) (raw) (RdC.ext HRr.out hE) (by rw [HBl.out]; omega) hBw
                exact ⟨rfl, Does.ok (op_append rfl rfl h81 hrun) ⟨hG.below hBw (fun q hq => (hT.lt q hq).1), (show Own w' wr.heap.size 5 .u8 v' (BG ++ raw) from by simpa using hO'), trivial⟩⟩
              · refine schain_pure (by kernel_rfl) fun σ w hE hold late hk => ?_
                have h4 : σ 4 = .slice Ar raw.length cr := hold 4 (by kernel_rfl)
                exact ⟨rfl, _, op_move rfl, h4⟩
              · refine schain_pure (by kernel_rfl) fun σ w hE hold late hk => ?_
                have h3 : σ 3 = .int .i64 cut := hold 3 (by kernel_rfl)
                exact ⟨rfl, _, op_move rfl, h3⟩
              · refine schain_pure (by kernel_rfl) fun σ w hE hold late hk => ?_
                have h84 : σ 84 = .int .i64 cut := hk.1
                exact ⟨rfl, _, op_build 30 _ rfl (headCells cut 0 0 0) (by simp only [List.map_toArray, List.map_cons, List.map_nil]; show Try.prog.built _ [(0, σ 84)] = _; rw [h84]; exact built_head1 _), rfl⟩
              · refine schain_pure (by kernel_rfl) fun σ w hE hold late hk => ?_
                have h5 : σ 5 = .pointer (some ⟨B, 0, none⟩) := hold 5 (by kernel_rfl)
                exact ⟨rfl, _, op_load_slot rfl h5 (HS.out.ext hE), rfl⟩
              · refine schain_turn (k := 3) (by kernel_rfl) fun σ w hE hold late hk hT => ?_
                have hT : Own w wr.heap.size 5 .u8 (σ 82) (BG ++ raw) := hT
                have hBw : wr.heap.size ≤ w.heap.size := Nat.le_trans (Nat.le_refl _) hE.size
                have h85 : σ 85 = headVal cut 0 0 0 := hk.1
                have h86 : σ 86 = slotVal k l s d := hk.2.1
                refine ⟨rfl, Does.call (op_call2 rfl Try.func11 (by kernel_rfl) (by kernel_rfl) h85 h86) (DBytes_calls cut 0 0 0 k l s d w) ?_⟩
                rintro e w' ⟨v', rfl, hO', hE'⟩
                exact ⟨v', rfl, hE'.mono hBw, ⟨RdC.ext (ownsRow.reads hT) hE', HBR.out ▸ ownsRow.reads hO'⟩, trivial⟩
              · refine schain_turn (k := 4) (by kernel_rfl) fun σ w hE hold late hk hT => ?_
                have hT : Rd w .u8 (σ 82) (BG ++ raw) ∧ Rd w .u8 (σ 87) BR := hT
                have hBw : wr.heap.size ≤ w.heap.size := Nat.le_trans (Nat.le_refl _) hE.size
                have h77 : σ 77 = .slice (some ⟨g, 0, none⟩) M cc := hk.1
                have h83 : σ 83 = .slice Ar raw.length cr := hk.2.2.1
                obtain ⟨A2, c2, e2⟩ := hT.1.shape
                obtain ⟨A3, c3', e3⟩ := hT.2.shape
                exact ⟨rfl, Does.ok (w' := w.alloc (.cells #[.slice (some ⟨g, 0, none⟩) M cc, .slice A2 (BG ++ raw).length c2, .slice Ar raw.length cr, .slice A3 BR.length c3'] 26)) (v := .slice (some ⟨w.heap.size, 0, none⟩) 4 4) (by go_simp) ⟨((Ext.refl w).alloc _).mono hBw, ⟨⟨w.heap.size, rfl, by rw [show upd (valsAt _ _ σ) 4 _ 2 = σ 82 from rfl, show upd (valsAt _ _ σ) 4 _ 3 = σ 87 from rfl, e2, e3]; exact heap_alloc_new w _⟩, RdC.ext hT.1 ((Ext.refl w).alloc _), RdC.ext hT.2 ((Ext.refl w).alloc _)⟩, trivial⟩⟩
              · refine schain_turn (k := 5) (by kernel_rfl) fun σ w hE hold late hk hT => ?_
                have hT : (∃ LB, (σ 88) = .slice (some ⟨LB, 0, none⟩) 4 4 ∧ w.heap[LB]? = some (.cells #[.slice (some ⟨g, 0, none⟩) M cc, (σ 82), .slice Ar raw.length cr, (σ 87)] 26 (0, 0))) ∧ Rd w .u8 (σ 82) (BG ++ raw) ∧ Rd w .u8 (σ 87) BR := hT
                have hBw : wr.heap.size ≤ w.heap.size := Nat.le_trans (Nat.le_refl _) hE.size
                exact ⟨rfl, Does.ok (op_assign rfl) ⟨Below.refl _ _, hT, trivial⟩⟩
            case post =>
              intro σ w13 hE13 hT hL
              have hT : (∃ LB, (σ 14) = .slice (some ⟨LB, 0, none⟩) 4 4 ∧ w13.heap[LB]? = some (.cells #[.slice (some ⟨g, 0, none⟩) M cc, (σ 82), .slice Ar raw.length cr, (σ 87)] 26 (0, 0))) ∧ Rd w13 .u8 (σ 82) (BG ++ raw) ∧ Rd w13 .u8 (σ 87) BR := hT
              clear hL
              simp only [putAll, List.map_cons, List.map_nil, List.zip_cons_cons, List.zip_nil_right, List.foldl_cons, List.foldl_nil, Act.put, Option.getD_some, List.setIfInBounds_toArray, List.set_cons_zero, List.set_cons_succ]
              obtain ⟨⟨LB, e14, hLB⟩, hR82, hR87⟩ := hT
              rw [e14]
              have hRc13 := RdC.ext HRc.out hE13
              have hRr13 := RdC.ext HRr.out hE13
              obtain ⟨A2, c2, e2⟩ := hR82.shape
              obtain ⟨A3, c3', e3⟩ := hR87.shape
              rw [e2] at hR82 hLB
              rw [e3] at hR87 hLB
              have HLB := Lib.hid hLB
              have hE3w : Ext w00 w13 := hE3w.trans hE13
              have ROW := Lib.hid (show ∀ i : Nat, i < 4 → ∃ Av nv cv YS, w13.cell? ⟨LB, i, none⟩ = some (.slice Av nv cv) ∧ Rd w13 .u8 (.slice Av nv cv) YS ∧ YS.length ≤ 1000000 ∧ ∀ x ∈ YS, 0 ≤ x ∧ x < 256 by
                intro i hi
                rcases (show i = 0 ∨ i = 1 ∨ i = 2 ∨ i = 3 by omega) with rfl | rfl | rfl | rfl
                · exact ⟨_, _, _, ZS, cell_of_block hLB 0, hRc13, hZl, HZr.out⟩
                · exact ⟨_, _, _, BG ++ raw, cell_of_block hLB 1, hR82, by rw [List.length_append, HBl.out]; omega, fun x hx => by
                    rcases List.mem_append.1 hx with h | h
                    · exact HBx.out x h
                    · exact Hraw.out x h⟩
                · exact ⟨_, _, _, raw, cell_of_block hLB 2, hRr13, by omega, Hraw.out⟩
                · exact ⟨_, _, _, BR, cell_of_block hLB 3, hR87, by rw [HRl.out]; decide, HRx.out⟩)
              clear hLB hR82 hR87 hRc13 hRr13 e14 e2 e3 hE13 HRc HZr HBr HRr HS hZl
              have hl4 := HLB.out
              go_wp2_with fail
              clear hl4
              go_loopw [15] (fun iv wr => ∃ i : Nat, i ≤ 4 ∧ iv = .int .i64 i ∧ Ext w13 wr) (fun iv wr => 4 - (intOf iv).toNat)
              case atStart => exact ⟨0, Nat.zero_le _, rfl, Ext.refl _⟩
              case round =>
                obtain ⟨i, hi, rfl, hEq⟩ := hrel
                by_cases hlt : i < 4
                · obtain ⟨Av, nv, cv, YS, hcl, hRv, hYl, hYr⟩ := ROW.out i hlt
                  have hnv : YS.length = nv := by obtain ⟨A', c', he, _⟩ := hRv; injection he with _ h2 _; exact h2.symm
                  have HRv := Lib.hid (RdC.ext hRv hEq)
                  have hcl := hEq.cell hcl
                  have HYr := Lib.hid hYr
                  clear hRv hYr
                  have hclA : (wr.alloc (.cells #[] 5)).cell? ⟨LB, i, none⟩ = some (.slice Av nv cv) := ((Ext.refl wr).alloc _).cell hcl
                  have tka5 : True := trivial
                  go_wp2_with (at_builtin; have _t := tka5; clear _t; go_must (refine wpList_append_rd (w0 := wr) rfl _ _ 26 5 .u8 1 rfl Try.underlying26 infoU8 (by decide) (.slice (some ⟨wr.heap.size, 0, none⟩) 0 0) (.slice Av nv cv) [] YS rfl rfl (World.ownsRow_lit (base := wr.heap.size) (e := 5) (size := 1) wr #[] 0 (Nat.le_refl _) (Nat.zero_le _) rfl) (RdC.ext HRv.out ((Ext.refl _).alloc _)) ((Ext.refl wr).alloc _) (by simp; omega) ?_); intro vc5 wc5 hOc5 hEc5; have HOc5 := Lib.hid hOc5; clear hOc5 tka5)
                  refine (Parse_calls vc5 ([] ++ YS) wc5 (by simpa using hYl) (ownsRow.reads HOc5.out) (by simpa using HYr.out)).mono ?_
                  rintro e w17 ⟨rfl, hE17⟩
                  rw [List.nil_append]
                  obtain ⟨x1, y1, z1, u1, k1, l1, s1, d1, hps⟩ := parsed_shape YS
                  rw [hps]
                  have HPS := Lib.hid hps
                  obtain ⟨Fv, hFv⟩ : ∃ Q, parseF YS = Q := ⟨_, rfl⟩
                  rw [hFv] at HPS ⊢
                  have hEq2 := (Ext.trans hEc5 hE17)
                  have hcl := hEq2.cell hcl
                  have HRv := Lib.hid (RdC.ext HRv.out hEq2)
                  have hEq := hEq.trans hEq2
                  clear hps hFv hEq2 hE17 hEc5 HOc5 hclA
                  obtain ⟨Bh7, hB7⟩ : ∃ Bh7, w17.heap.size = Bh7 := ⟨_, rfl⟩
                  have Z07 := Lib.hid (show HeadAt ((w17.alloc (.cells (headCells 0 0 0 0) 30)).alloc (.cells (slotCells 0 0 0 (fun _ => 0)) 24)) Bh7 0 0 0 0 by rw [← hB7]; exact (HeadAt.new w17 0 0 0 0).ext ((Ext.refl _).alloc _))
                  have Z17 := Lib.hid (show SlotAt ((w17.alloc (.cells (headCells 0 0 0 0) 30)).alloc (.cells (slotCells 0 0 0 (fun _ => 0)) 24)) (Bh7 + 1) 0 0 0 (fun _ => 0) by
                    rw [← hB7]; have := SlotAt.new (w17.alloc (.cells (headCells 0 0 0 0) 30)) 0 0 0 (fun _ => 0); rwa [World.size_alloc] at this)
                  have hEp7 : Ext w17 ((w17.alloc (.cells (headCells 0 0 0 0) 30)).alloc (.cells (slotCells 0 0 0 (fun _ => 0)) 24)) := ((Ext.refl w17).alloc _).alloc _
                  have Hb7 := Lib.hid hB7
                  clear hB7
                  have tkh7 : True := trivial
                  have tks7 : True := trivial
                  obtain ⟨w18, hw18⟩ : ∃ Q, (((w17.alloc (.cells (headCells 0 0 0 0) 30)).alloc (.cells (slotCells 0 0 0 (fun _ => 0)) 24)).setRow Bh7 (headCells x1 y1 z1 u1)).setRow (Bh7 + 1) (slotCells k1 l1 s1 d1) = Q := ⟨_, rfl⟩
                  have hE78 : Ext w17 w18 := hw18 ▸ ((Ext.refl w17).trans ((hEp7.row (Nat.le_of_eq Hb7.out) _).row (by have := Hb7.out; omega) _))
                  have hcl8 := hE78.cell hcl
                  clear hcl
                  go_wp2_with (first | (have _t := tkh7; clear _t; (try rw [Hb7.out]); refine wpList_store_row rfl 30 _ _ rfl Bh7 (headCells x1 y1 z1 u1) rfl rfl 30 (headCells 0 0 0 0) Z07.out (head_info ..) rfl (head_one ..) ?_; clear tkh7) | (have _t := tks7; clear _t; refine wpList_store_row rfl 24 _ _ rfl (Bh7 + 1) (slotCells k1 l1 s1 d1) rfl rfl 24 (slotCells 0 0 0 (fun _ => 0)) (row_keep Z17.out (by omega)) (slot_info ..) rfl (slot_one ..) ?_; clear tks7))
                  (try rw [hw18])
                  have HH7 := Lib.hid (show HeadAt w18 Bh7 x1 y1 z1 u1 from hw18 ▸ (row_keep (row_at Z07.out) (by omega)))
                  have HS7 := Lib.hid (show SlotAt w18 (Bh7 + 1) k1 l1 s1 d1 from hw18 ▸ (row_at (row_keep Z17.out (by omega))))
                  have HRv := Lib.hid (RdC.ext HRv.out hE78)
                  have hEq := hEq.trans hE78
                  clear hw18 hE78 Z07 Z17 Hb7 hEp7 hcl8
                  refine (DParse_calls _ YS w18 hYl HRv.out HYr.out).mono ?_
                  rintro e w19 ⟨rfl, hE19⟩
                  rw [HPS.out]
                  have HH7 := Lib.hid (HH7.out.ext hE19)
                  have HS7 := Lib.hid (HS7.out.ext hE19)
                  have hEq := hEq.trans hE19
                  have hs7 := HS7.out.lt
                  clear hE19 HRv HYr hYl HPS
                  obtain ⟨Bh9, hB9⟩ : ∃ Bh9, w19.heap.size = Bh9 := ⟨_, rfl⟩
                  have Z09 := Lib.hid (show HeadAt ((w19.alloc (.cells (headCells 0 0 0 0) 30)).alloc (.cells (slotCells 0 0 0 (fun _ => 0)) 24)) Bh9 0 0 0 0 by rw [← hB9]; exact (HeadAt.new w19 0 0 0 0).ext ((Ext.refl _).alloc _))
                  have Z19 := Lib.hid (show SlotAt ((w19.alloc (.cells (headCells 0 0 0 0) 30)).alloc (.cells (slotCells 0 0 0 (fun _ => 0)) 24)) (Bh9 + 1) 0 0 0 (fun _ => 0) by
                    rw [← hB9]; have := SlotAt.new (w19.alloc (.cells (headCells 0 0 0 0) 30)) 0 0 0 (fun _ => 0); rwa [World.size_alloc] at this)
                  have hEp9 : Ext w19 ((w19.alloc (.cells (headCells 0 0 0 0) 30)).alloc (.cells (slotCells 0 0 0 (fun _ => 0)) 24)) := ((Ext.refl w19).alloc _).alloc _
                  have Hb9 := Lib.hid hB9
                  clear hB9
                  have tkh9 : True := trivial
                  have tks9 : True := trivial
                  have qh : ∀ w, (Op.equalIn 10000 30 (headVal x1 y1 z1 u1) (headVal x1 y1 z1 u1)).run Try.prog w = .ok true w := fun w => by rw [eq_head]; simp [headB]
                  have qs : ∀ w, (Op.equalIn 10000 24 (slotVal k1 l1 s1 d1) (slotVal k1 l1 s1 d1)).run Try.prog w = .ok true w := fun w => by rw [eq_slot]; simp [slotB]
                  have q9 : ∀ w, (Op.equalIn 9999 22 (.agg (dataCells d1)) (.agg (dataCells d1))).run Try.prog w = .ok true w := fun w => by rw [eq_data9]; simp
                  have tq0 : True := trivial
                  have NHH7 := Lib.hid (show Bh7 ≠ Bh9 by have := Hb9.out; omega)
                  have MHH7 := Lib.hid (show Bh7 ≠ Bh9 + 1 by have := Hb9.out; omega)
                  have NHS7 := Lib.hid (show Bh7 + 1 ≠ Bh9 by have := Hb9.out; omega)
                  have MHS7 := Lib.hid (show Bh7 + 1 ≠ Bh9 + 1 by have := Hb9.out; omega)
                  clear hs7
                  go_wp2_with (first | (have _t := tq0; clear _t; (try rw [Hb9.out]); refine wpList_store_row rfl 30 _ _ rfl Bh9 (headCells x1 y1 z1 u1) rfl rfl 30 (headCells 0 0 0 0) Z09.out (head_info ..) rfl (head_one ..) ?_; clear tq0; have tq1 : True := trivial) | (have _t := tq1; clear _t; refine wpList_store_row rfl 24 _ _ rfl (Bh9 + 1) (slotCells k1 l1 s1 d1) rfl rfl 24 (slotCells 0 0 0 (fun _ => 0)) (row_keep Z19.out (by omega)) (slot_info ..) rfl (slot_one ..) ?_; clear tq1; have tq2 : True := trivial) | (have _t := tq2; clear _t; refine wpList_load_row rfl 30 _ rfl Bh7 rfl 30 (headCells x1 y1 z1 u1) (0, 0) _ (row_keep (row_keep (HH7.out.ext hEp9) NHH7.out) MHH7.out) Try.underlying30 rfl (head_info ..) ?_; clear tq2; have tq3 : True := trivial) | (have _t := tq3; clear _t; refine wpList_load_row rfl 30 _ rfl Bh9 rfl 30 (headCells x1 y1 z1 u1) (0, 0) _ (row_keep (row_at Z09.out) (by omega)) Try.underlying30 rfl (head_info ..) ?_; clear tq3; have tq4 : True := trivial) | (have _t := tq4; clear _t; refine wpList_load_rowg (by rfl) 24 _ rfl (Bh7 + 1) rfl 24 (slotCells k1 l1 s1 d1) (0, 0) _ (row_keep (row_keep (HS7.out.ext hEp9) NHS7.out) MHS7.out) Try.underlying24 rfl (slot_info ..) ?_; clear tq4; have tq5 : True := trivial) | (have _t := tq5; clear _t; refine wpList_load_rowg (by rfl) 24 _ rfl (Bh9 + 1) rfl 24 (slotCells k1 l1 s1 d1) (0, 0) _ (row_at (row_keep Z19.out (by omega))) Try.underlying24 rfl (slot_info ..) ?_; clear tq5))
                  go_roundw
                  case rel => exact ⟨i + 1, by omega, by go_num, hEq.trans ((Ext.refl w19).trans ((hEp9.row (Nat.le_of_eq Hb9.out) _).row (by have := Hb9.out; omega) _))⟩
                  case measure => simp [intOf]; omega
                · obtain rfl : i = 4 := by omega
                  rw [show ((4 : Nat) : Int) = 4 from rfl]
                  go_wp2_with fail
                  go_ret
                  exact ⟨rfl, hE3w.trans hEq⟩
          · have hmb : (Int.tmod cut 3 == 1) = false := beq_eq_false_iff_ne.2 hm
            clear hm
            go_wp2_with fail
            clear hmb
            have hRc : Rd wr .u8 (.slice (some ⟨g, 0, none⟩) 48 cc) (XS.take 48) := by
              have h := ownsRow.reads HO.out
              have h2 : Rd wr .u8 (.slice (some ⟨g, 0, none⟩) 48 cc) (XS.take 48 ++ XS.drop 48) := by rw [List.take_append_drop]; exact h
              exact Rd.len (rd_left h2) (by rw [List.length_take, HXl.out]; omega)
            have hZl : (XS.take 48).length ≤ 1000000 := by rw [List.length_take, HXl.out]; omega
            have hZr : ∀ x ∈ XS.take 48, 0 ≤ x ∧ x < 256 := fun x hx => HXr.out x (List.mem_of_mem_take hx)
            obtain ⟨ZS, hZS⟩ : ∃ Q, XS.take 48 = Q := ⟨_, rfl⟩
            rw [hZS] at hRc hZl hZr
            have HRc := Lib.hid hRc
            have HZr := Lib.hid hZr
            have HS := Lib.hid (HS.out.ext hE3)
            have HBr := Lib.hid (RdC.ext HBr.out hE3)
            have HRr := Lib.hid (RdC.ext HRr.out hE3)
            have hE3w := hE.trans hE3
            clear hRc hZr hZS HO HXl HXr hE3
            refine wp_region_schain mixed [1, 3, 5, 10, 11, 12]
                [(· = .slice (some ⟨g, 0, none⟩) 48 cc),
                 (fun _ => True),
                 (· = .slice (some ⟨g3, 0, none⟩) 48 c3),
                 (fun _ => True),
                 (· = .slice Ar raw.length cr),
                 (fun _ => True),
                 (· = .slice Ar raw.length cr),
                 (· = .int .i64 cut),
                 (· = headVal cut 0 0 0),
                 (· = slotVal k l s d),
                 (fun _ => True),
                 (fun _ => True),
                 (fun _ => True)]
                (wr.heap.size) (fun kk vv ww => match kk with | 0 => True | 1 => Own ww wr.heap.size 5 .u8 (vv 0) ([]) | 2 => Own ww wr.heap.size 5 .u8 (vv 1) (BG) | 3 => Own ww wr.heap.size 5 .u8 (vv 2) (BG ++ raw) | 4 => Rd ww .u8 (vv 2) (BG ++ raw) ∧ Rd ww .u8 (vv 3) BR | 5 => (∃ LB, (vv 4) = .slice (some ⟨LB, 0, none⟩) 4 4 ∧ ww.heap[LB]? = some (.cells #[.slice (some ⟨g, 0, none⟩) 48 cc, (vv 2), .slice Ar raw.length cr, (vv 3)] 26 (0, 0))) ∧ Rd ww .u8 (vv 2) (BG ++ raw) ∧ Rd ww .u8 (vv 3) BR | _ => (∃ LB, (vv 5) = .slice (some ⟨LB, 0, none⟩) 4 4 ∧ ww.heap[LB]? = some (.cells #[.slice (some ⟨g, 0, none⟩) 48 cc, (vv 2), .slice Ar raw.length cr, (vv 3)] 26 (0, 0))) ∧ Rd ww .u8 (vv 2) (BG ++ raw) ∧ Rd ww .u8 (vv 3) BR)
                (by kernel_rfl) (by kernel_rfl) (by decide) ?start ?steps ?post
            case start => intro _; trivial
            case steps =>
              refine ⟨?_, ?_, ?_, ?_, ?_, ?_, ?_, ?_, ?_, ?_, ?_, ?_, ?_, trivial⟩
              · refine schain_pure (by kernel_rfl) fun σ w hE hold late hk => ?_
                have h12 : σ 12 = .slice (some ⟨g, 0, none⟩) 48 cc := hold 12 (by kernel_rfl)
                exact ⟨rfl, _, op_move rfl, h12⟩
              · refine schain_turn (k := 0) (by kernel_rfl) fun σ w hE hold late hk hT => ?_
                have hT : True := hT
                have hBw : wr.heap.size ≤ w.heap.size := Nat.le_trans (Nat.le_refl _) hE.size
                have hO : Own (w.alloc (.cells #[] 5)) w.heap.size 5 .u8 (.slice (some ⟨w.heap.size, 0, none⟩) 0 0) [] := World.ownsRow_lit w #[] 0 (Nat.le_refl _) (Nat.zero_le _) rfl
                exact ⟨rfl, Does.ok (op_lit0 rfl Try.underlying26 infoU8) ⟨((Ext.refl w).alloc _).mono hBw, ownsRow.base hO hBw, trivial⟩⟩
              · refine schain_pure (by kernel_rfl) fun σ w hE hold late hk => ?_
                have h11 : σ 11 = .slice (some ⟨g3, 0, none⟩) 48 c3 := hold 11 (by kernel_rfl)
                exact ⟨rfl, _, op_move rfl, h11⟩
              · refine schain_turn (k := 1) (by kernel_rfl) fun σ w hE hold late hk hT => ?_
                have hT : Own w wr.heap.size 5 .u8 (σ 78) ([]) := hT
                have hBw : wr.heap.size ≤ w.heap.size := Nat.le_trans (Nat.le_refl _) hE.size
                have h79 : σ 79 = .slice (some ⟨g3, 0, none⟩) 48 c3 := hk.2.1
                obtain ⟨v', w', hrun, hO', hG⟩ := run_append_num (P := Try.prog) w wr.heap.size 26 26 5 .u8 1 Try.underlying26 infoU8 (by decide) (σ 78) ([]) hT (.slice (some ⟨g3, 0, none⟩) 48 c3) (BG) (RdC.ext HBr.out hE) (by rw [HBl.out]; decide) hBw
                exact ⟨rfl, Does.ok (op_append rfl rfl h79 hrun) ⟨hG.below hBw (fun q hq => (hT.lt q hq).1), (show Own w' wr.heap.size 5 .u8 v' (BG) from by simpa using hO'), trivial⟩⟩
              · refine schain_pure (by kernel_rfl) fun σ w hE hold late hk => ?_
                have h4 : σ 4 = .slice Ar raw.length cr := hold 4 (by kernel_rfl)
                exact ⟨rfl, _, op_move rfl, h4⟩
              · refine schain_turn (k := 2) (by kernel_rfl) fun σ w hE hold late hk hT => ?_
                have hT : Own w wr.heap.size 5 .u8 (σ 80) (BG) := hT
                have hBw : wr.heap.size ≤ w.heap.size := Nat.le_trans (Nat.le_refl _) hE.size
                have h81 : σ 81 = .slice Ar raw.length cr := hk.2.1
                obtain ⟨v', w', hrun, hO', hG⟩ := run_append_num (P := Try.prog) w wr.heap.size 26 26 5 .u8 1 Try.underlying26 infoU8 (by decide) (σ 80) (BG) hT (.slice Ar raw.length cr) (raw) (RdC.ext HRr.out hE) (by rw [HBl.out]; omega) hBw
                exact ⟨rfl, Does.ok (op_append rfl rfl h81 hrun) ⟨hG.below hBw (fun q hq => (hT.lt q hq).1), (show Own w' wr.heap.size 5 .u8 v' (BG ++ raw) from by simpa using hO'), trivial⟩⟩
              · refine schain_pure (by kernel_rfl) fun σ w hE hold late hk => ?_
                have h4 : σ 4 = .slice Ar raw.length cr := hold 4 (by kernel_rfl)
                exact ⟨rfl, _, op_move rfl, h4⟩
              · refine schain_pure (by kernel_rfl) fun σ w hE hold late hk => ?_
                have h3 : σ 3 = .int .i64 cut := hold 3 (by kernel_rfl)
                exact ⟨rfl, _, op_move rfl, h3⟩
              · refine schain_pure (by kernel_rfl) fun σ w hE hold late hk => ?_
                have h84 : σ 84 = .int .i64 cut := hk.1
                exact ⟨rfl, _, op_build 30 _ rfl (headCells cut 0 0 0) (by simp only [List.map_toArray, List.map_cons, List.map_nil]; show Try.prog.built _ [(0, σ 84)] = _; rw [h84]; exact built_head1 _), rfl⟩
              · refine schain_pure (by kernel_rfl) fun σ w hE hold late hk => ?_
                have h5 : σ 5 = .pointer (some ⟨B, 0, none⟩) := hold 5 (by kernel_rfl)
                exact ⟨rfl, _, op_load_slot rfl h5 (HS.out.ext hE), rfl⟩
              · refine schain_turn (k := 3) (by kernel_rfl) fun σ w hE hold late hk hT => ?_
                have hT : Own w wr.heap.size 5 .u8 (σ 82) (BG ++ raw) := hT
                have hBw : wr.heap.size ≤ w.heap.size := Nat.le_trans (Nat.le_refl _) hE.size
                have h85 : σ 85 = headVal cut 0 0 0 := hk.1
                have h86 : σ 86 = slotVal k l s d := hk.2.1
                refine ⟨rfl, Does.call (op_call2 rfl Try.func11 (by kernel_rfl) (by kernel_rfl) h85 h86) (DBytes_calls cut 0 0 0 k l s d w) ?_⟩
                rintro e w' ⟨v', rfl, hO', hE'⟩
                exact ⟨v', rfl, hE'.mono hBw, ⟨RdC.ext (ownsRow.reads hT) hE', HBR.out ▸ ownsRow.reads hO'⟩, trivial⟩
              · refine schain_turn (k := 4) (by kernel_rfl) fun σ w hE hold late hk hT => ?_
                have hT : Rd w .u8 (σ 82) (BG ++ raw) ∧ Rd w .u8 (σ 87) BR := hT
                have hBw : wr.heap.size ≤ w.heap.size := Nat.le_trans (Nat.le_refl _) hE.size
                have h77 : σ 77 = .slice (some ⟨g, 0, none⟩) 48 cc := hk.1
                have h83 : σ 83 = .slice Ar raw.length cr := hk.2.2.1
                obtain ⟨A2, c2, e2⟩ := hT.1.shape
                obtain ⟨A3, c3', e3⟩ := hT.2.shape
                exact ⟨rfl, Does.ok (w' := w.alloc (.cells #[.slice (some ⟨g, 0, none⟩) 48 cc, .slice A2 (BG ++ raw).length c2, .slice Ar raw.length cr, .slice A3 BR.length c3'] 26)) (v := .slice (some ⟨w.heap.size, 0, none⟩) 4 4) (by go_simp) ⟨((Ext.refl w).alloc _).mono hBw, ⟨⟨w.heap.size, rfl, by rw [show upd (valsAt _ _ σ) 4 _ 2 = σ 82 from rfl, show upd (valsAt _ _ σ) 4 _ 3 = σ 87 from rfl, e2, e3]; exact heap_alloc_new w _⟩, RdC.ext hT.1 ((Ext.refl w).alloc _), RdC.ext hT.2 ((Ext.refl w).alloc _)⟩, trivial⟩⟩
              · refine schain_turn (k := 5) (by kernel_rfl) fun σ w hE hold late hk hT => ?_
                have hT : (∃ LB, (σ 88) = .slice (some ⟨LB, 0, none⟩) 4 4 ∧ w.heap[LB]? = some (.cells #[.slice (some ⟨g, 0, none⟩) 48 cc, (σ 82), .slice Ar raw.length cr, (σ 87)] 26 (0, 0))) ∧ Rd w .u8 (σ 82) (BG ++ raw) ∧ Rd w .u8 (σ 87) BR := hT
                have hBw : wr.heap.size ≤ w.heap.size := Nat.le_trans (Nat.le_refl _) hE.size
                exact ⟨rfl, Does.ok (op_assign rfl) ⟨Below.refl _ _, hT, trivial⟩⟩
            case post =>
              intro σ w13 hE13 hT hL
              have hT : (∃ LB, (σ 14) = .slice (some ⟨LB, 0, none⟩) 4 4 ∧ w13.heap[LB]? = some (.cells #[.slice (some ⟨g, 0, none⟩) 48 cc, (σ 82), .slice Ar raw.length cr, (σ 87)] 26 (0, 0))) ∧ Rd w13 .u8 (σ 82) (BG ++ raw) ∧ Rd w13 .u8 (σ 87) BR := hT
              clear hL
              simp only [putAll, List.map_cons, List.map_nil, List.zip_cons_cons, List.zip_nil_right, List.foldl_cons, List.foldl_nil, Act.put, Option.getD_some, List.setIfInBounds_toArray, List.set_cons_zero, List.set_cons_succ]
              obtain ⟨⟨LB, e14, hLB⟩, hR82, hR87⟩ := hT
              rw [e14]
              have hRc13 := RdC.ext HRc.out hE13
              have hRr13 := RdC.ext HRr.out hE13
              obtain ⟨A2, c2, e2⟩ := hR82.shape
              obtain ⟨A3, c3', e3⟩ := hR87.shape
              rw [e2] at hR82 hLB
              rw [e3] at hR87 hLB
              have HLB := Lib.hid hLB
              have hE3w : Ext w00 w13 := hE3w.trans hE13
              have ROW := Lib.hid (show ∀ i : Nat, i < 4 → ∃ Av nv cv YS, w13.cell? ⟨LB, i, none⟩ = some (.slice Av nv cv) ∧ Rd w13 .u8 (.slice Av nv cv) YS ∧ YS.length ≤ 1000000 ∧ ∀ x ∈ YS, 0 ≤ x ∧ x < 256 by
                intro i hi
                rcases (show i = 0 ∨ i = 1 ∨ i = 2 ∨ i = 3 by omega) with rfl | rfl | rfl | rfl
                · exact ⟨_, _, _, ZS, cell_of_block hLB 0, hRc13, hZl, HZr.out⟩
                · exact ⟨_, _, _, BG ++ raw, cell_of_block hLB 1, hR82, by rw [List.length_append, HBl.out]; omega, fun x hx => by
                    rcases List.mem_append.1 hx with h | h
                    · exact HBx.out x h
                    · exact Hraw.out x h⟩
                · exact ⟨_, _, _, raw, cell_of_block hLB 2, hRr13, by omega, Hraw.out⟩
                · exact ⟨_, _, _, BR, cell_of_block hLB 3, hR87, by rw [HRl.out]; decide, HRx.out⟩)
              clear hLB hR82 hR87 hRc13 hRr13 e14 e2 e3 hE13 HRc HZr HBr HRr HS hZl
              have hl4 := HLB.out
              go_wp2_with fail
              clear hl4
              go_loopw [15] (fun iv wr => ∃ i : Nat, i ≤ 4 ∧ iv = .int .i64 i ∧ Ext w13 wr) (fun iv wr => 4 - (intOf iv).toNat)
              case atStart => exact ⟨0, Nat.zero_le _, rfl, Ext.refl _⟩
              case round =>
                obtain ⟨i, hi, rfl, hEq⟩ := hrel
                by_cases hlt : i < 4
                · obtain ⟨Av, nv, cv, YS, hcl, hRv, hYl, hYr⟩ := ROW.out i hlt
                  have hnv : YS.length = nv := by obtain ⟨A', c', he, _⟩ := hRv; injection he with _ h2 _; exact h2.symm
                  have HRv := Lib.hid (RdC.ext hRv hEq)
                  have hcl := hEq.cell hcl
                  have HYr := Lib.hid hYr
                  clear hRv hYr
                  have hclA : (wr.alloc (.cells #[] 5)).cell? ⟨LB, i, none⟩ = some (.slice Av nv cv) := ((Ext.refl wr).alloc _).cell hcl
                  have tka5 : True := trivial
                  go_wp2_with (at_builtin; have _t := tka5; clear _t; go_must (refine wpList_append_rd (w0 := wr) rfl _ _ 26 5 .u8 1 rfl Try.underlying26 infoU8 (by decide) (.slice (some ⟨wr.heap.size, 0, none⟩) 0 0) (.slice Av nv cv) [] YS rfl rfl (World.ownsRow_lit (base := wr.heap.size) (e := 5) (size := 1) wr #[] 0 (Nat.le_refl _) (Nat.zero_le _) rfl) (RdC.ext HRv.out ((Ext.refl _).alloc _)) ((Ext.refl wr).alloc _) (by simp; omega) ?_); intro vc5 wc5 hOc5 hEc5; have HOc5 := Lib.hid hOc5; clear hOc5 tka5)
                  refine (Parse_calls vc5 ([] ++ YS) wc5 (by simpa using hYl) (ownsRow.reads HOc5.out) (by simpa using HYr.out)).mono ?_
                  rintro e w17 ⟨rfl, hE17⟩
                  rw [List.nil_append]
                  obtain ⟨x1, y1, z1, u1, k1, l1, s1, d1, hps⟩ := parsed_shape YS
                  rw [hps]
                  have HPS := Lib.hid hps
                  obtain ⟨Fv, hFv⟩ : ∃ Q, parseF YS = Q := ⟨_, rfl⟩
                  rw [hFv] at HPS ⊢
                  have hEq2 := (Ext.trans hEc5 hE17)
                  have hcl := hEq2.cell hcl
                  have HRv := Lib.hid (RdC.ext HRv.out hEq2)
                  have hEq := hEq.trans hEq2
                  clear hps hFv hEq2 hE17 hEc5 HOc5 hclA
                  obtain ⟨Bh7, hB7⟩ : ∃ Bh7, w17.heap.size = Bh7 := ⟨_, rfl⟩
                  have Z07 := Lib.hid (show HeadAt ((w17.alloc (.cells (headCells 0 0 0 0) 30)).alloc (.cells (slotCells 0 0 0 (fun _ => 0)) 24)) Bh7 0 0 0 0 by rw [← hB7]; exact (HeadAt.new w17 0 0 0 0).ext ((Ext.refl _).alloc _))
                  have Z17 := Lib.hid (show SlotAt ((w17.alloc (.cells (headCells 0 0 0 0) 30)).alloc (.cells (slotCells 0 0 0 (fun _ => 0)) 24)) (Bh7 + 1) 0 0 0 (fun _ => 0) by
                    rw [← hB7]; have := SlotAt.new (w17.alloc (.cells (headCells 0 0 0 0) 30)) 0 0 0 (fun _ => 0); rwa [World.size_alloc] at this)
                  have hEp7 : Ext w17 ((w17.alloc (.cells (headCells 0 0 0 0) 30)).alloc (.cells (slotCells 0 0 0 (fun _ => 0)) 24)) := ((Ext.refl w17).alloc _).alloc _
                  have Hb7 := Lib.hid hB7
                  clear hB7
                  have tkh7 : True := trivial
                  have tks7 : True := trivial
                  obtain ⟨w18, hw18⟩ : ∃ Q, (((w17.alloc (.cells (headCells 0 0 0 0) 30)).alloc (.cells (slotCells 0 0 0 (fun _ => 0)) 24)).setRow Bh7 (headCells x1 y1 z1 u1)).setRow (Bh7 + 1) (slotCells k1 l1 s1 d1) = Q := ⟨_, rfl⟩
                  have hE78 : Ext w17 w18 := hw18 ▸ ((Ext.refl w17).trans ((hEp7.row (Nat.le_of_eq Hb7.out) _).row (by have := Hb7.out; omega) _))
                  have hcl8 := hE78.cell hcl
                  clear hcl
                  go_wp2_with (first | (have _t := tkh7; clear _t; (try rw [Hb7.out]); refine wpList_store_row rfl 30 _ _ rfl Bh7 (headCells x1 y1 z1 u1) rfl rfl 30 (headCells 0 0 0 0) Z07.out (head_info ..) rfl (head_one ..) ?_; clear tkh7) | (have _t := tks7; clear _t; refine wpList_store_row rfl 24 _ _ rfl (Bh7 + 1) (slotCells k1 l1 s1 d1) rfl rfl 24 (slotCells 0 0 0 (fun _ => 0)) (row_keep Z17.out (by omega)) (slot_info ..) rfl (slot_one ..) ?_; clear tks7))
                  (try rw [hw18])
                  have HH7 := Lib.hid (show HeadAt w18 Bh7 x1 y1 z1 u1 from hw18 ▸ (row_keep (row_at Z07.out) (by omega)))
                  have HS7 := Lib.hid (show SlotAt w18 (Bh7 + 1) k1 l1 s1 d1 from hw18 ▸ (row_at (row_keep Z17.out (by omega))))
                  have HRv := Lib.hid (RdC.ext HRv.out hE78)
                  have hEq := hEq.trans hE78
                  clear hw18 hE78 Z07 Z17 Hb7 hEp7 hcl8
                  refine (DParse_calls _ YS w18 hYl HRv.out HYr.out).mono ?_
                  rintro e w19 ⟨rfl, hE19⟩
                  rw [HPS.out]
                  have HH7 := Lib.hid (HH7.out.ext hE19)
                  have HS7 := Lib.hid (HS7.out.ext hE19)
                  have hEq := hEq.trans hE19
                  have hs7 := HS7.out.lt
                  clear hE19 HRv HYr hYl HPS
                  obtain ⟨Bh9, hB9⟩ : ∃ Bh9, w19.heap.size = Bh9 := ⟨_, rfl⟩
                  have Z09 := Lib.hid (show HeadAt ((w19.alloc (.cells (headCells 0 0 0 0) 30)).alloc (.cells (slotCells 0 0 0 (fun _ => 0)) 24)) Bh9 0 0 0 0 by rw [← hB9]; exact (HeadAt.new w19 0 0 0 0).ext ((Ext.refl _).alloc _))
                  have Z19 := Lib.hid (show SlotAt ((w19.alloc (.cells (headCells 0 0 0 0) 30)).alloc (.cells (slotCells 0 0 0 (fun _ => 0)) 24)) (Bh9 + 1) 0 0 0 (fun _ => 0) by
                    rw [← hB9]; have := SlotAt.new (w19.alloc (.cells (headCells 0 0 0 0) 30)) 0 0 0 (fun _ => 0); rwa [World.size_alloc] at this)
                  have hEp9 : Ext w19 ((w19.alloc (.cells (headCells 0 0 0 0) 30)).alloc (.cells (slotCells 0 0 0 (fun _ => 0)) 24)) := ((Ext.refl w19).alloc _).alloc _
                  have Hb9 := Lib.hid hB9
                  clear hB9
                  have tkh9 : True := trivial
                  have tks9 : True := trivial
                  have qh : ∀ w, (Op.equalIn 10000 30 (headVal x1 y1 z1 u1) (headVal x1 y1 z1 u1)).run Try.prog w = .ok true w := fun w => by rw [eq_head]; simp [headB]
                  have qs : ∀ w, (Op.equalIn 10000 24 (slotVal k1 l1 s1 d1) (slotVal k1 l1 s1 d1)).run Try.prog w = .ok true w := fun w => by rw [eq_slot]; simp [slotB]
                  have q9 : ∀ w, (Op.equalIn 9999 22 (.agg (dataCells d1)) (.agg (dataCells d1))).run Try.prog w = .ok true w := fun w => by rw [eq_data9]; simp
                  have tq0 : True := trivial
                  have NHH7 := Lib.hid (show Bh7 ≠ Bh9 by have := Hb9.out; omega)
                  have MHH7 := Lib.hid (show Bh7 ≠ Bh9 + 1 by have := Hb9.out; omega)
                  have NHS7 := Lib.hid (show Bh7 + 1 ≠ Bh9 by have := Hb9.out; omega)
                  have MHS7 := Lib.hid (show Bh7 + 1 ≠ Bh9 + 1 by have := Hb9.out; omega)
                  clear hs7
                  go_wp2_with (first | (have _t := tq0; clear _t; (try rw [Hb9.out]); refine wpList_store_row rfl 30 _ _ rfl Bh9 (headCells x1 y1 z1 u1) rfl rfl 30 (headCells 0 0 0 0) Z09.out (head_info ..) rfl (head_one ..) ?_; clear tq0; have tq1 : True := trivial) | (have _t := tq1; clear _t; refine wpList_store_row rfl 24 _ _ rfl (Bh9 + 1) (slotCells k1 l1 s1 d1) rfl rfl 24 (slotCells 0 0 0 (fun _ => 0)) (row_keep Z19.out (by omega)) (slot_info ..) rfl (slot_one ..) ?_; clear tq1; have tq2 : True := trivial) | (have _t := tq2; clear _t; refine wpList_load_row rfl 30 _ rfl Bh7 rfl 30 (headCells x1 y1 z1 u1) (0, 0) _ (row_keep (row_keep (HH7.out.ext hEp9) NHH7.out) MHH7.out) Try.underlying30 rfl (head_info ..) ?_; clear tq2; have tq3 : True := trivial) | (have _t := tq3; clear _t; refine wpList_load_row rfl 30 _ rfl Bh9 rfl 30 (headCells x1 y1 z1 u1) (0, 0) _ (row_keep (row_at Z09.out) (by omega)) Try.underlying30 rfl (head_info ..) ?_; clear tq3; have tq4 : True := trivial) | (have _t := tq4; clear _t; refine wpList_load_rowg (by rfl) 24 _ rfl (Bh7 + 1) rfl 24 (slotCells k1 l1 s1 d1) (0, 0) _ (row_keep (row_keep (HS7.out.ext hEp9) NHS7.out) MHS7.out) Try.underlying24 rfl (slot_info ..) ?_; clear tq4; have tq5 : True := trivial) | (have _t := tq5; clear _t; refine wpList_load_rowg (by rfl) 24 _ rfl (Bh9 + 1) rfl 24 (slotCells k1 l1 s1 d1) (0, 0) _ (row_at (row_keep Z19.out (by omega))) Try.underlying24 rfl (slot_info ..) ?_; clear tq5))
                  go_roundw
                  case rel => exact ⟨i + 1, by omega, by go_num, hEq.trans ((Ext.refl w19).trans ((hEp9.row (Nat.le_of_eq Hb9.out) _).row (by have := Hb9.out; omega) _))⟩
                  case measure => simp [intOf]; omega
                · obtain rfl : i = 4 := by omega
                  rw [show ((4 : Nat) : Int) = 4 from rfl]
                  go_wp2_with fail
                  go_ret
                  exact ⟨rfl, hE3w.trans hEq⟩
      · skip
        by_cases hm : Int.tmod cut 3 = 1
        · go_wp2_with fail
          obtain ⟨QC, hQC⟩ : ∃ Q, wrap64 (Int.tdiv cut 3) = Q := ⟨_, rfl⟩
          have hQr : -9223372036854775808 ≤ QC ∧ QC ≤ 9223372036854775807 := by rw [← hQC]; unfold wrap64; omega
          rw [hQC]
          clear hQC
          refine (within_calls QC 49 wr (by decide) (by decide) hQr).mono ?_
          rintro e w' ⟨rfl, rfl⟩
          obtain ⟨M, hM⟩ : ∃ M : Nat, QC % 49 = M := ⟨(QC % 49).toNat, by omega⟩
          have hM1 : M ≤ 48 := by omega
          rw [hM]
          clear hM hQr hm
          go_wp2_with fail
          have hRc : Rd wr .u8 (.slice (some ⟨g, 0, none⟩) M cc) (XS.take M) := by
            have h := ownsRow.reads HO.out
            have h2 : Rd wr .u8 (.slice (some ⟨g, 0, none⟩) 48 cc) (XS.take M ++ XS.drop M) := by rw [List.take_append_drop]; exact h
            exact Rd.len (rd_left h2) (by rw [List.length_take, HXl.out]; omega)
          have hZl : (XS.take M).length ≤ 1000000 := by rw [List.length_take, HXl.out]; omega
          have hZr : ∀ x ∈ XS.take M, 0 ≤ x ∧ x < 256 := fun x hx => HXr.out x (List.mem_of_mem_take hx)
          obtain ⟨ZS, hZS⟩ : ∃ Q, XS.take M = Q := ⟨_, rfl⟩
          rw [hZS] at hRc hZl hZr
          have HRc := Lib.hid hRc
          have HZr := Lib.hid hZr
          have HS := Lib.hid (HS.out.ext hE3)
          have HBr := Lib.hid (RdC.ext HBr.out hE3)
          have HRr := Lib.hid (RdC.ext HRr.out hE3)
          have hE3w := hE.trans hE3
          clear hRc hZr hZS HO HXl HXr hE3
          refine wp_region_schain mixed [1, 3, 5, 10, 11, 12]
              [(· = .slice (some ⟨g, 0, none⟩) M cc),
               (fun _ => True),
               (· = .slice (some ⟨g3, 0, none⟩) 48 c3),
               (fun _ => True),
               (· = .slice Ar raw.length cr),
               (fun _ => True),
               (· = .slice Ar raw.length cr),
               (· = .int .i64 cut),
               (· = headVal cut 0 0 0),
               (· = slotVal k l s d),
               (fun _ => True),
               (fun _ => True),
               (fun _ => True)]
              (wr.heap.size) (fun kk vv ww => match kk with | 0 => True | 1 => Own ww wr.heap.size 5 .u8 (vv 0) ([]) | 2 => Own ww wr.heap.size 5 .u8 (vv 1) (BG) | 3 => Own ww wr.heap.size 5 .u8 (vv 2) (BG ++ raw) | 4 => Rd ww .u8 (vv 2) (BG ++ raw) ∧ Rd ww .u8 (vv 3) BR | 5 => (∃ LB, (vv 4) = .slice (some ⟨LB, 0, none⟩) 4 4 ∧ ww.heap[LB]? = some (.cells #[.slice (some ⟨g, 0, none⟩) M cc, (vv 2), .slice Ar raw.length cr, (vv 3)] 26 (0, 0))) ∧ Rd ww .u8 (vv 2) (BG ++ raw) ∧ Rd ww .u8 (vv 3) BR | _ => (∃ LB, (vv 5) = .slice (some ⟨LB, 0, none⟩) 4 4 ∧ ww.heap[LB]? = some (.cells #[.slice (some ⟨g, 0, none⟩) M cc, (vv 2), .slice Ar raw.length cr, (vv 3)] 26 (0, 0))) ∧ Rd ww .u8 (vv 2) (BG ++ raw) ∧ Rd ww .u8 (vv 3) BR)
              (by kernel_rfl) (by kernel_rfl) (by decide) ?start ?steps ?post
          case start => intro _; trivial
          case steps =>
            refine ⟨?_, ?_, ?_, ?_, ?_, ?_, ?_, ?_, ?_, ?_, ?_, ?_, ?_, trivial⟩
            · refine schain_pure (by kernel_rfl) fun σ w hE hold late hk => ?_
              have h12 : σ 12 = .slice (some ⟨g, 0, none⟩) M cc := hold 12 (by kernel_rfl)
              exact ⟨rfl, _, op_move rfl, h12⟩
            · refine schain_turn (k := 0) (by kernel_rfl) fun σ w hE hold late hk hT => ?_
              have hT : True := hT
              have hBw : wr.heap.size ≤ w.heap.size := Nat.le_trans (Nat.le_refl _) hE.size
              have hO : Own (w.alloc (.cells #[] 5)) w.heap.size 5 .u8 (.slice (some ⟨w.heap.size, 0, none⟩) 0 0) [] := World.ownsRow_lit w #[] 0 (Nat.le_refl _) (Nat.zero_le _) rfl
              exact ⟨rfl, Does.ok (op_lit0 rfl Try.underlying26 infoU8) ⟨((Ext.refl w).alloc _).mono hBw, ownsRow.base hO hBw, trivial⟩⟩
            · refine schain_pure (by kernel_rfl) fun σ w hE hold late hk => ?_
              have h11 : σ 11 = .slice (some ⟨g3, 0, none⟩) 48 c3 := hold 11 (by kernel_rfl)
              exact ⟨rfl, _, op_move rfl, h11⟩
            · refine schain_turn (k := 1) (by kernel_rfl) fun σ w hE hold late hk hT => ?_
              have hT : Own w wr.heap.size 5 .u8 (σ 78) ([]) := hT
              have hBw : wr.heap.size ≤ w.heap.size := Nat.le_trans (Nat.le_refl _) hE.size
              have h79 : σ 79 = .slice (some ⟨g3, 0, none⟩) 48 c3 := hk.2.1
              obtain ⟨v', w', hrun, hO', hG⟩ := run_append_num (P := Try.prog) w wr.heap.size 26 26 5 .u8 1 Try.underlying26 infoU8 (by decide) (σ 78) ([]) hT (.slice (some ⟨g3, 0, none⟩) 48 c3) (BG) (RdC.ext HBr.out hE) (by rw [HBl.out]; decide) hBw
              exact ⟨rfl, Does.ok (op_append rfl rfl h79 hrun) ⟨hG.below hBw (fun q hq => (hT.lt q hq).1), (show Own w' wr.heap.size 5 .u8 v' (BG) from by simpa using hO'), trivial⟩⟩
            · refine schain_pure (by kernel_rfl) fun σ w hE hold late hk => ?_
              have h4 : σ 4 = .slice Ar raw.length cr := hold 4 (by kernel_rfl)
              exact ⟨rfl, _, op_move rfl, h4⟩
            · refine schain_turn (k := 2) (by kernel_rfl) fun σ w hE hold late hk hT => ?_
              have hT : Own w wr.heap.size 5 .u8 (σ 80) (BG) := hT
              have hBw : wr.heap.size ≤ w.heap.size := Nat.le_trans (Nat.le_refl _) hE.size
              have h81 : σ 81 = .slice Ar raw.length cr := hk.2.1
              obtain ⟨v', w', hrun, hO', hG⟩ := run_append_num (P := Try.prog) w wr.heap.size 26 26 5 .u8 1 Try.underlying26 infoU8 (by decide) (σ 80) (BG) hT (.slice Ar raw.length cr) (raw) (RdC.ext HRr.out hE) (by rw [HBl.out]; omega) hBw
              exact ⟨rfl, Does.ok (op_append rfl rfl h81 hrun) ⟨hG.below hBw (fun q hq => (hT.lt q hq).1), (show Own w' wr.heap.size 5 .u8 v' (BG ++ raw) from by simpa using hO'), trivial⟩⟩
            · refine schain_pure (by kernel_rfl) fun σ w hE hold late hk => ?_
              have h4 : σ 4 = .slice Ar raw.length cr := hold 4 (by kernel_rfl)
              exact ⟨rfl, _, op_move rfl, h4⟩
            · refine schain_pure (by kernel_rfl) fun σ w hE hold late hk => ?_
              have h3 : σ 3 = .int .i64 cut := hold 3 (by kernel_rfl)
              exact ⟨rfl, _, op_move rfl, h3⟩
            · refine schain_pure (by kernel_rfl) fun σ w hE hold late hk => ?_
              have h84 : σ 84 = .int .i64 cut := hk.1
              exact ⟨rfl, _, op_build 30 _ rfl (headCells cut 0 0 0) (by simp only [List.map_toArray, List.map_cons, List.map_nil]; show Try.prog.built _ [(0, σ 84)] = _; rw [h84]; exact built_head1 _), rfl⟩
            · refine schain_pure (by kernel_rfl) fun σ w hE hold late hk => ?_
              have h5 : σ 5 = .pointer (some ⟨B, 0, none⟩) := hold 5 (by kernel_rfl)
              exact ⟨rfl, _, op_load_slot rfl h5 (HS.out.ext hE), rfl⟩
            · refine schain_turn (k := 3) (by kernel_rfl) fun σ w hE hold late hk hT => ?_
              have hT : Own w wr.heap.size 5 .u8 (σ 82) (BG ++ raw) := hT
              have hBw : wr.heap.size ≤ w.heap.size := Nat.le_trans (Nat.le_refl _) hE.size
              have h85 : σ 85 = headVal cut 0 0 0 := hk.1
              have h86 : σ 86 = slotVal k l s d := hk.2.1
              refine ⟨rfl, Does.call (op_call2 rfl Try.func11 (by kernel_rfl) (by kernel_rfl) h85 h86) (DBytes_calls cut 0 0 0 k l s d w) ?_⟩
              rintro e w' ⟨v', rfl, hO', hE'⟩
              exact ⟨v', rfl, hE'.mono hBw, ⟨RdC.ext (ownsRow.reads hT) hE', HBR.out ▸ ownsRow.reads hO'⟩, trivial⟩
            · refine schain_turn (k := 4) (by kernel_rfl) fun σ w hE hold late hk hT => ?_
              have hT : Rd w .u8 (σ 82) (BG ++ raw) ∧ Rd w .u8 (σ 87) BR := hT
              have hBw : wr.heap.size ≤ w.heap.size := Nat.le_trans (Nat.le_refl _) hE.size
              have h77 : σ 77 = .slice (some ⟨g, 0, none⟩) M cc := hk.1
              have h83 : σ 83 = .slice Ar raw.length cr := hk.2.2.1
              obtain ⟨A2, c2, e2⟩ := hT.1.shape
              obtain ⟨A3, c3', e3⟩ := hT.2.shape
              exact ⟨rfl, Does.ok (w' := w.alloc (.cells #[.slice (some ⟨g, 0, none⟩) M cc, .slice A2 (BG ++ raw).length c2, .slice Ar raw.length cr, .slice A3 BR.length c3'] 26)) (v := .slice (some ⟨w.heap.size, 0, none⟩) 4 4) (by go_simp) ⟨((Ext.refl w).alloc _).mono hBw, ⟨⟨w.heap.size, rfl, by rw [show upd (valsAt _ _ σ) 4 _ 2 = σ 82 from rfl, show upd (valsAt _ _ σ) 4 _ 3 = σ 87 from rfl, e2, e3]; exact heap_alloc_new w _⟩, RdC.ext hT.1 ((Ext.refl w).alloc _), RdC.ext hT.2 ((Ext.refl w).alloc _)⟩, trivial⟩⟩
            · refine schain_turn (k := 5) (by kernel_rfl) fun σ w hE hold late hk hT => ?_
              have hT : (∃ LB, (σ 88) = .slice (some ⟨LB, 0, none⟩) 4 4 ∧ w.heap[LB]? = some (.cells #[.slice (some ⟨g, 0, none⟩) M cc, (σ 82), .slice Ar raw.length cr, (σ 87)] 26 (0, 0))) ∧ Rd w .u8 (σ 82) (BG ++ raw) ∧ Rd w .u8 (σ 87) BR := hT
              have hBw : wr.heap.size ≤ w.heap.size := Nat.le_trans (Nat.le_refl _) hE.size
              exact ⟨rfl, Does.ok (op_assign rfl) ⟨Below.refl _ _, hT, trivial⟩⟩
          case post =>
            intro σ w13 hE13 hT hL
            have hT : (∃ LB, (σ 14) = .slice (some ⟨LB, 0, none⟩) 4 4 ∧ w13.heap[LB]? = some (.cells #[.slice (some ⟨g, 0, none⟩) M cc, (σ 82), .slice Ar raw.length cr, (σ 87)] 26 (0, 0))) ∧ Rd w13 .u8 (σ 82) (BG ++ raw) ∧ Rd w13 .u8 (σ 87) BR := hT
            clear hL
            simp only [putAll, List.map_cons, List.map_nil, List.zip_cons_cons, List.zip_nil_right, List.foldl_cons, List.foldl_nil, Act.put, Option.getD_some, List.setIfInBounds_toArray, List.set_cons_zero, List.set_cons_succ]
            obtain ⟨⟨LB, e14, hLB⟩, hR82, hR87⟩ := hT
            rw [e14]
            have hRc13 := RdC.ext HRc.out hE13
            have hRr13 := RdC.ext HRr.out hE13
            obtain ⟨A2, c2, e2⟩ := hR82.shape
            obtain ⟨A3, c3', e3⟩ := hR87.shape
            rw [e2] at hR82 hLB
            rw [e3] at hR87 hLB
            have HLB := Lib.hid hLB
            have hE3w : Ext w00 w13 := hE3w.trans hE13
            have ROW := Lib.hid (show ∀ i : Nat, i < 4 → ∃ Av nv cv YS, w13.cell? ⟨LB, i, none⟩ = some (.slice Av nv cv) ∧ Rd w13 .u8 (.slice Av nv cv) YS ∧ YS.length ≤ 1000000 ∧ ∀ x ∈ YS, 0 ≤ x ∧ x < 256 by
              intro i hi
              rcases (show i = 0 ∨ i = 1 ∨ i = 2 ∨ i = 3 by omega) with rfl | rfl | rfl | rfl
              · exact ⟨_, _, _, ZS, cell_of_block hLB 0, hRc13, hZl, HZr.out⟩
              · exact ⟨_, _, _, BG ++ raw, cell_of_block hLB 1, hR82, by rw [List.length_append, HBl.out]; omega, fun x hx => by
                  rcases List.mem_append.1 hx with h | h
                  · exact HBx.out x h
                  · exact Hraw.out x h⟩
              · exact ⟨_, _, _, raw, cell_of_block hLB 2, hRr13, by omega, Hraw.out⟩
              · exact ⟨_, _, _, BR, cell_of_block hLB 3, hR87, by rw [HRl.out]; decide, HRx.out⟩)
            clear hLB hR82 hR87 hRc13 hRr13 e14 e2 e3 hE13 HRc HZr HBr HRr HS hZl
            have hl4 := HLB.out
            go_wp2_with fail
            clear hl4
            go_loopw [15] (fun iv wr => ∃ i : Nat, i ≤ 4 ∧ iv = .int .i64 i ∧ Ext w13 wr) (fun iv wr => 4 - (intOf iv).toNat)
            case atStart => exact ⟨0, Nat.zero_le _, rfl, Ext.refl _⟩
            case round =>
              obtain ⟨i, hi, rfl, hEq⟩ := hrel
              by_cases hlt : i < 4
              · obtain ⟨Av, nv, cv, YS, hcl, hRv, hYl, hYr⟩ := ROW.out i hlt
                have hnv : YS.length = nv := by obtain ⟨A', c', he, _⟩ := hRv; injection he with _ h2 _; exact h2.symm
                have HRv := Lib.hid (RdC.ext hRv hEq)
                have hcl := hEq.cell hcl
                have HYr := Lib.hid hYr
                clear hRv hYr
                have hclA : (wr.alloc (.cells #[] 5)).cell? ⟨LB, i, none⟩ = some (.slice Av nv cv) := ((Ext.refl wr).alloc _).cell hcl
                have tka5 : True := trivial
                go_wp2_with (at_builtin; have _t := tka5; clear _t; go_must (refine wpList_append_rd (w0 := wr) rfl _ _ 26 5 .u8 1 rfl Try.underlying26 infoU8 (by decide) (.slice (some ⟨wr.heap.size, 0, none⟩) 0 0) (.slice Av nv cv) [] YS rfl rfl (World.ownsRow_lit (base := wr.heap.size) (e := 5) (size := 1) wr #[] 0 (Nat.le_refl _) (Nat.zero_le _) rfl) (RdC.ext HRv.out ((Ext.refl _).alloc _)) ((Ext.refl wr).alloc _) (by simp; omega) ?_); intro vc5 wc5 hOc5 hEc5; have HOc5 := Lib.hid hOc5; clear hOc5 tka5)
                refine (Parse_calls vc5 ([] ++ YS) wc5 (by simpa using hYl) (ownsRow.reads HOc5.out) (by simpa using HYr.out)).mono ?_
                rintro e w17 ⟨rfl, hE17⟩
                rw [List.nil_append]
                obtain ⟨x1, y1, z1, u1, k1, l1, s1, d1, hps⟩ := parsed_shape YS
                rw [hps]
                have HPS := Lib.hid hps
                obtain ⟨Fv, hFv⟩ : ∃ Q, parseF YS = Q := ⟨_, rfl⟩
                rw [hFv] at HPS ⊢
                have hEq2 := (Ext.trans hEc5 hE17)
                have hcl := hEq2.cell hcl
                have HRv := Lib.hid (RdC.ext HRv.out hEq2)
                have hEq := hEq.trans hEq2
                clear hps hFv hEq2 hE17 hEc5 HOc5 hclA
                obtain ⟨Bh7, hB7⟩ : ∃ Bh7, w17.heap.size = Bh7 := ⟨_, rfl⟩
                have Z07 := Lib.hid (show HeadAt ((w17.alloc (.cells (headCells 0 0 0 0) 30)).alloc (.cells (slotCells 0 0 0 (fun _ => 0)) 24)) Bh7 0 0 0 0 by rw [← hB7]; exact (HeadAt.new w17 0 0 0 0).ext ((Ext.refl _).alloc _))
                have Z17 := Lib.hid (show SlotAt ((w17.alloc (.cells (headCells 0 0 0 0) 30)).alloc (.cells (slotCells 0 0 0 (fun _ => 0)) 24)) (Bh7 + 1) 0 0 0 (fun _ => 0) by
                  rw [← hB7]; have := SlotAt.new (w17.alloc (.cells (headCells 0 0 0 0) 30)) 0 0 0 (fun _ => 0); rwa [World.size_alloc] at this)
                have hEp7 : Ext w17 ((w17.alloc (.cells (headCells 0 0 0 0) 30)).alloc (.cells (slotCells 0 0 0 (fun _ => 0)) 24)) := ((Ext.refl w17).alloc _).alloc _
                have Hb7 := Lib.hid hB7
                clear hB7
                have tkh7 : True := trivial
                have tks7 : True := trivial
                obtain ⟨w18, hw18⟩ : ∃ Q, (((w17.alloc (.cells (headCells 0 0 0 0) 30)).alloc (.cells (slotCells 0 0 0 (fun _ => 0)) 24)).setRow Bh7 (headCells x1 y1 z1 u1)).setRow (Bh7 + 1) (slotCells k1 l1 s1 d1) = Q := ⟨_, rfl⟩
                have hE78 : Ext w17 w18 := hw18 ▸ ((Ext.refl w17).trans ((hEp7.row (Nat.le_of_eq Hb7.out) _).row (by have := Hb7.out; omega) _))
                have hcl8 := hE78.cell hcl
                clear hcl
                go_wp2_with (first | (have _t := tkh7; clear _t; (try rw [Hb7.out]); refine wpList_store_row rfl 30 _ _ rfl Bh7 (headCells x1 y1 z1 u1) rfl rfl 30 (headCells 0 0 0 0) Z07.out (head_info ..) rfl (head_one ..) ?_; clear tkh7) | (have _t := tks7; clear _t; refine wpList_store_row rfl 24 _ _ rfl (Bh7 + 1) (slotCells k1 l1 s1 d1) rfl rfl 24 (slotCells 0 0 0 (fun _ => 0)) (row_keep Z17.out (by omega)) (slot_info ..) rfl (slot_one ..) ?_; clear tks7))
                (try rw [hw18])
                have HH7 := Lib.hid (show HeadAt w18 Bh7 x1 y1 z1 u1 from hw18 ▸ (row_keep (row_at Z07.out) (by omega)))
                have HS7 := Lib.hid (show SlotAt w18 (Bh7 + 1) k1 l1 s1 d1 from hw18 ▸ (row_at (row_keep Z17.out (by omega))))
                have HRv := Lib.hid (RdC.ext HRv.out hE78)
                have hEq := hEq.trans hE78
                clear hw18 hE78 Z07 Z17 Hb7 hEp7 hcl8
                refine (DParse_calls _ YS w18 hYl HRv.out HYr.out).mono ?_
                rintro e w19 ⟨rfl, hE19⟩
                rw [HPS.out]
                have HH7 := Lib.hid (HH7.out.ext hE19)
                have HS7 := Lib.hid (HS7.out.ext hE19)
                have hEq := hEq.trans hE19
                have hs7 := HS7.out.lt
                clear hE19 HRv HYr hYl HPS
                obtain ⟨Bh9, hB9⟩ : ∃ Bh9, w19.heap.size = Bh9 := ⟨_, rfl⟩
                have Z09 := Lib.hid (show HeadAt ((w19.alloc (.cells (headCells 0 0 0 0) 30)).alloc (.cells (slotCells 0 0 0 (fun _ => 0)) 24)) Bh9 0 0 0 0 by rw [← hB9]; exact (HeadAt.new w19 0 0 0 0).ext ((Ext.refl _).alloc _))
                have Z19 := Lib.hid (show SlotAt ((w19.alloc (.cells (headCells 0 0 0 0) 30)).alloc (.cells (slotCells 0 0 0 (fun _ => 0)) 24)) (Bh9 + 1) 0 0 0 (fun _ => 0) by
                  rw [← hB9]; have := SlotAt.new (w19.alloc (.cells (headCells 0 0 0 0) 30)) 0 0 0 (fun _ => 0); rwa [World.size_alloc] at this)
                have hEp9 : Ext w19 ((w19.alloc (.cells (headCells 0 0 0 0) 30)).alloc (.cells (slotCells 0 0 0 (fun _ => 0)) 24)) := ((Ext.refl w19).alloc _).alloc _
                have Hb9 := Lib.hid hB9
                clear hB9
                have tkh9 : True := trivial
                have tks9 : True := trivial
                have qh : ∀ w, (Op.equalIn 10000 30 (headVal x1 y1 z1 u1) (headVal x1 y1 z1 u1)).run Try.prog w = .ok true w := fun w => by rw [eq_head]; simp [headB]
                have qs : ∀ w, (Op.equalIn 10000 24 (slotVal k1 l1 s1 d1) (slotVal k1 l1 s1 d1)).run Try.prog w = .ok true w := fun w => by rw [eq_slot]; simp [slotB]
                have q9 : ∀ w, (Op.equalIn 9999 22 (.agg (dataCells d1)) (.agg (dataCells d1))).run Try.prog w = .ok true w := fun w => by rw [eq_data9]; simp
                have tq0 : True := trivial
                have NHH7 := Lib.hid (show Bh7 ≠ Bh9 by have := Hb9.out; omega)
                have MHH7 := Lib.hid (show Bh7 ≠ Bh9 + 1 by have := Hb9.out; omega)
                have NHS7 := Lib.hid (show Bh7 + 1 ≠ Bh9 by have := Hb9.out; omega)
                have MHS7 := Lib.hid (show Bh7 + 1 ≠ Bh9 + 1 by have := Hb9.out; omega)
                clear hs7
                go_wp2_with (first | (have _t := tq0; clear _t; (try rw [Hb9.out]); refine wpList_store_row rfl 30 _ _ rfl Bh9 (headCells x1 y1 z1 u1) rfl rfl 30 (headCells 0 0 0 0) Z09.out (head_info ..) rfl (head_one ..) ?_; clear tq0; have tq1 : True := trivial) | (have _t := tq1; clear _t; refine wpList_store_row rfl 24 _ _ rfl (Bh9 + 1) (slotCells k1 l1 s1 d1) rfl rfl 24 (slotCells 0 0 0 (fun _ => 0)) (row_keep Z19.out (by omega)) (slot_info ..) rfl (slot_one ..) ?_; clear tq1; have tq2 : True := trivial) | (have _t := tq2; clear _t; refine wpList_load_row rfl 30 _ rfl Bh7 rfl 30 (headCells x1 y1 z1 u1) (0, 0) _ (row_keep (row_keep (HH7.out.ext hEp9) NHH7.out) MHH7.out) Try.underlying30 rfl (head_info ..) ?_; clear tq2; have tq3 : True := trivial) | (have _t := tq3; clear _t; refine wpList_load_row rfl 30 _ rfl Bh9 rfl 30 (headCells x1 y1 z1 u1) (0, 0) _ (row_keep (row_at Z09.out) (by omega)) Try.underlying30 rfl (head_info ..) ?_; clear tq3; have tq4 : True := trivial) | (have _t := tq4; clear _t; refine wpList_load_rowg (by rfl) 24 _ rfl (Bh7 + 1) rfl 24 (slotCells k1 l1 s1 d1) (0, 0) _ (row_keep (row_keep (HS7.out.ext hEp9) NHS7.out) MHS7.out) Try.underlying24 rfl (slot_info ..) ?_; clear tq4; have tq5 : True := trivial) | (have _t := tq5; clear _t; refine wpList_load_rowg (by rfl) 24 _ rfl (Bh9 + 1) rfl 24 (slotCells k1 l1 s1 d1) (0, 0) _ (row_at (row_keep Z19.out (by omega))) Try.underlying24 rfl (slot_info ..) ?_; clear tq5))
                go_roundw
                case rel => exact ⟨i + 1, by omega, by go_num, hEq.trans ((Ext.refl w19).trans ((hEp9.row (Nat.le_of_eq Hb9.out) _).row (by have := Hb9.out; omega) _))⟩
                case measure => simp [intOf]; omega
              · obtain rfl : i = 4 := by omega
                rw [show ((4 : Nat) : Int) = 4 from rfl]
                go_wp2_with fail
                go_ret
                exact ⟨rfl, hE3w.trans hEq⟩
        · have hmb : (Int.tmod cut 3 == 1) = false := beq_eq_false_iff_ne.2 hm
          clear hm
          go_wp2_with fail
          clear hmb
          have hRc : Rd wr .u8 (.slice (some ⟨g, 0, none⟩) 48 cc) (XS.take 48) := by
            have h := ownsRow.reads HO.out
            have h2 : Rd wr .u8 (.slice (some ⟨g, 0, none⟩) 48 cc) (XS.take 48 ++ XS.drop 48) := by rw [List.take_append_drop]; exact h
            exact Rd.len (rd_left h2) (by rw [List.length_take, HXl.out]; omega)
          have hZl : (XS.take 48).length ≤ 1000000 := by rw [List.length_take, HXl.out]; omega
          have hZr : ∀ x ∈ XS.take 48, 0 ≤ x ∧ x < 256 := fun x hx => HXr.out x (List.mem_of_mem_take hx)
          obtain ⟨ZS, hZS⟩ : ∃ Q, XS.take 48 = Q := ⟨_, rfl⟩
          rw [hZS] at hRc hZl hZr
          have HRc := Lib.hid hRc
          have HZr := Lib.hid hZr
          have HS := Lib.hid (HS.out.ext hE3)
          have HBr := Lib.hid (RdC.ext HBr.out hE3)
          have HRr := Lib.hid (RdC.ext HRr.out hE3)
          have hE3w := hE.trans hE3
          clear hRc hZr hZS HO HXl HXr hE3
          refine wp_region_schain mixed [1, 3, 5, 10, 11, 12]
              [(· = .slice (some ⟨g, 0, none⟩) 48 cc),
               (fun _ => True),
               (· = .slice (some ⟨g3, 0, none⟩) 48 c3),
               (fun _ => True),
               (· = .slice Ar raw.length cr),
               (fun _ => True),
               (· = .slice Ar raw.length cr),
               (· = .int .i64 cut),
               (· = headVal cut 0 0 0),
               (· = slotVal k l s d),
               (fun _ => True),
               (fun _ => True),
               (fun _ => True)]
              (wr.heap.size) (fun kk vv ww => match kk with | 0 => True | 1 => Own ww wr.heap.size 5 .u8 (vv 0) ([]) | 2 => Own ww wr.heap.size 5 .u8 (vv 1) (BG) | 3 => Own ww wr.heap.size 5 .u8 (vv 2) (BG ++ raw) | 4 => Rd ww .u8 (vv 2) (BG ++ raw) ∧ Rd ww .u8 (vv 3) BR | 5 => (∃ LB, (vv 4) = .slice (some ⟨LB, 0, none⟩) 4 4 ∧ ww.heap[LB]? = some (.cells #[.slice (some ⟨g, 0, none⟩) 48 cc, (vv 2), .slice Ar raw.length cr, (vv 3)] 26 (0, 0))) ∧ Rd ww .u8 (vv 2) (BG ++ raw) ∧ Rd ww .u8 (vv 3) BR | _ => (∃ LB, (vv 5) = .slice (some ⟨LB, 0, none⟩) 4 4 ∧ ww.heap[LB]? = some (.cells #[.slice (some ⟨g, 0, none⟩) 48 cc, (vv 2), .slice Ar raw.length cr, (vv 3)] 26 (0, 0))) ∧ Rd ww .u8 (vv 2) (BG ++ raw) ∧ Rd ww .u8 (vv 3) BR)
              (by kernel_rfl) (by kernel_rfl) (by decide) ?start ?steps ?post
          case start => intro _; trivial
          case steps =>
            refine ⟨?_, ?_, ?_, ?_, ?_, ?_, ?_, ?_, ?_, ?_, ?_, ?_, ?_, trivial⟩
            · refine schain_pure (by kernel_rfl) fun σ w hE hold late hk => ?_
              have h12 : σ 12 = .slice (some ⟨g, 0, none⟩) 48 cc := hold 12 (by kernel_rfl)
              exact ⟨rfl, _, op_move rfl, h12⟩
            · refine schain_turn (k := 0) (by kernel_rfl) fun σ w hE hold late hk hT => ?_
              have hT : True := hT
              have hBw : wr.heap.size ≤ w.heap.size := Nat.le_trans (Nat.le_refl _) hE.size
              have hO : Own (w.alloc (.cells #[] 5)) w.heap.size 5 .u8 (.slice (some ⟨w.heap.size, 0, none⟩) 0 0) [] := World.ownsRow_lit w #[] 0 (Nat.le_refl _) (Nat.zero_le _) rfl
              exact ⟨rfl, Does.ok (op_lit0 rfl Try.underlying26 infoU8) ⟨((Ext.refl w).alloc _).mono hBw, ownsRow.base hO hBw, trivial⟩⟩
            · refine schain_pure (by kernel_rfl) fun σ w hE hold late hk => ?_
              have h11 : σ 11 = .slice (some ⟨g3, 0, none⟩) 48 c3 := hold 11 (by kernel_rfl)
              exact ⟨rfl, _, op_move rfl, h11⟩
            · refine schain_turn (k := 1) (by kernel_rfl) fun σ w hE hold late hk hT => ?_
              have hT : Own w wr.heap.size 5 .u8 (σ 78) ([]) := hT
              have hBw : wr.heap.size ≤ w.heap.size := Nat.le_trans (Nat.le_refl _) hE.size
              have h79 : σ 79 = .slice (some ⟨g3, 0, none⟩) 48 c3 := hk.2.1
              obtain ⟨v', w', hrun, hO', hG⟩ := run_append_num (P := Try.prog) w wr.heap.size 26 26 5 .u8 1 Try.underlying26 infoU8 (by decide) (σ 78) ([]) hT (.slice (some ⟨g3, 0, none⟩) 48 c3) (BG) (RdC.ext HBr.out hE) (by rw [HBl.out]; decide) hBw
              exact ⟨rfl, Does.ok (op_append rfl rfl h79 hrun) ⟨hG.below hBw (fun q hq => (hT.lt q hq).1), (show Own w' wr.heap.size 5 .u8 v' (BG) from by simpa using hO'), trivial⟩⟩
            · refine schain_pure (by kernel_rfl) fun σ w hE hold late hk => ?_
              have h4 : σ 4 = .slice Ar raw.length cr := hold 4 (by kernel_rfl)
              exact ⟨rfl, _, op_move rfl, h4⟩
            · refine schain_turn (k := 2) (by kernel_rfl) fun σ w hE hold late hk hT => ?_
              have hT : Own w wr.heap.size 5 .u8 (σ 80) (BG) := hT
              have hBw : wr.heap.size ≤ w.heap.size := Nat.le_trans (Nat.le_refl _) hE.size
              have h81 : σ 81 = .slice Ar raw.length cr := hk.2.1
              obtain ⟨v', w', hrun, hO', hG⟩ := run_append_num (P := Try.prog) w wr.heap.size 26 26 5 .u8 1 Try.underlying26 infoU8 (by decide) (σ 80) (BG) hT (.slice Ar raw.length cr) (raw) (RdC.ext HRr.out hE) (by rw [HBl.out]; omega) hBw
              exact ⟨rfl, Does.ok (op_append rfl rfl h81 hrun) ⟨hG.below hBw (fun q hq => (hT.lt q hq).1), (show Own w' wr.heap.size 5 .u8 v' (BG ++ raw) from by simpa using hO'), trivial⟩⟩
            · refine schain_pure (by kernel_rfl) fun σ w hE hold late hk => ?_
              have h4 : σ 4 = .slice Ar raw.length cr := hold 4 (by kernel_rfl)
              exact ⟨rfl, _, op_move rfl, h4⟩
            · refine schain_pure (by kernel_rfl) fun σ w hE hold late hk => ?_
              have h3 : σ 3 = .int .i64 cut := hold 3 (by kernel_rfl)
              exact ⟨rfl, _, op_move rfl, h3⟩
            · refine schain_pure (by kernel_rfl) fun σ w hE hold late hk => ?_
              have h84 : σ 84 = .int .i64 cut := hk.1
              exact ⟨rfl, _, op_build 30 _ rfl (headCells cut 0 0 0) (by simp only [List.map_toArray, List.map_cons, List.map_nil]; show Try.prog.built _ [(0, σ 84)] = _; rw [h84]; exact built_head1 _), rfl⟩
            · refine schain_pure (by kernel_rfl) fun σ w hE hold late hk => ?_
              have h5 : σ 5 = .pointer (some ⟨B, 0, none⟩) := hold 5 (by kernel_rfl)
              exact ⟨rfl, _, op_load_slot rfl h5 (HS.out.ext hE), rfl⟩
            · refine schain_turn (k := 3) (by kernel_rfl) fun σ w hE hold late hk hT => ?_
              have hT : Own w wr.heap.size 5 .u8 (σ 82) (BG ++ raw) := hT
              have hBw : wr.heap.size ≤ w.heap.size := Nat.le_trans (Nat.le_refl _) hE.size
              have h85 : σ 85 = headVal cut 0 0 0 := hk.1
              have h86 : σ 86 = slotVal k l s d := hk.2.1
              refine ⟨rfl, Does.call (op_call2 rfl Try.func11 (by kernel_rfl) (by kernel_rfl) h85 h86) (DBytes_calls cut 0 0 0 k l s d w) ?_⟩
              rintro e w' ⟨v', rfl, hO', hE'⟩
              exact ⟨v', rfl, hE'.mono hBw, ⟨RdC.ext (ownsRow.reads hT) hE', HBR.out ▸ ownsRow.reads hO'⟩, trivial⟩
            · refine schain_turn (k := 4) (by kernel_rfl) fun σ w hE hold late hk hT => ?_
              have hT : Rd w .u8 (σ 82) (BG ++ raw) ∧ Rd w .u8 (σ 87) BR := hT
              have hBw : wr.heap.size ≤ w.heap.size := Nat.le_trans (Nat.le_refl _) hE.size
              have h77 : σ 77 = .slice (some ⟨g, 0, none⟩) 48 cc := hk.1
              have h83 : σ 83 = .slice Ar raw.length cr := hk.2.2.1
              obtain ⟨A2, c2, e2⟩ := hT.1.shape
              obtain ⟨A3, c3', e3⟩ := hT.2.shape
              exact ⟨rfl, Does.ok (w' := w.alloc (.cells #[.slice (some ⟨g, 0, none⟩) 48 cc, .slice A2 (BG ++ raw).length c2, .slice Ar raw.length cr, .slice A3 BR.length c3'] 26)) (v := .slice (some ⟨w.heap.size, 0, none⟩) 4 4) (by go_simp) ⟨((Ext.refl w).alloc _).mono hBw, ⟨⟨w.heap.size, rfl, by rw [show upd (valsAt _ _ σ) 4 _ 2 = σ 82 from rfl, show upd (valsAt _ _ σ) 4 _ 3 = σ 87 from rfl, e2, e3]; exact heap_alloc_new w _⟩, RdC.ext hT.1 ((Ext.refl w).alloc _), RdC.ext hT.2 ((Ext.refl w).alloc _)⟩, trivial⟩⟩
            · refine schain_turn (k := 5) (by kernel_rfl) fun σ w hE hold late hk hT => ?_
              have hT : (∃ LB, (σ 88) = .slice (some ⟨LB, 0, none⟩) 4 4 ∧ w.heap[LB]? = some (.cells #[.slice (some ⟨g, 0, none⟩) 48 cc, (σ 82), .slice Ar raw.length cr, (σ 87)] 26 (0, 0))) ∧ Rd w .u8 (σ 82) (BG ++ raw) ∧ Rd w .u8 (σ 87) BR := hT
              have hBw : wr.heap.size ≤ w.heap.size := Nat.le_trans (Nat.le_refl _) hE.size
              exact ⟨rfl, Does.ok (op_assign rfl) ⟨Below.refl _ _, hT, trivial⟩⟩
          case post =>
            intro σ w13 hE13 hT hL
            have hT : (∃ LB, (σ 14) = .slice (some ⟨LB, 0, none⟩) 4 4 ∧ w13.heap[LB]? = some (.cells #[.slice (some ⟨g, 0, none⟩) 48 cc, (σ 82), .slice Ar raw.length cr, (σ 87)] 26 (0, 0))) ∧ Rd w13 .u8 (σ 82) (BG ++ raw) ∧ Rd w13 .u8 (σ 87) BR := hT
            clear hL
            simp only [putAll, List.map_cons, List.map_nil, List.zip_cons_cons, List.zip_nil_right, List.foldl_cons, List.foldl_nil, Act.put, Option.getD_some, List.setIfInBounds_toArray, List.set_cons_zero, List.set_cons_succ]
            obtain ⟨⟨LB, e14, hLB⟩, hR82, hR87⟩ := hT
            rw [e14]
            have hRc13 := RdC.ext HRc.out hE13
            have hRr13 := RdC.ext HRr.out hE13
            obtain ⟨A2, c2, e2⟩ := hR82.shape
            obtain ⟨A3, c3', e3⟩ := hR87.shape
            rw [e2] at hR82 hLB
            rw [e3] at hR87 hLB
            have HLB := Lib.hid hLB
            have hE3w : Ext w00 w13 := hE3w.trans hE13
            have ROW := Lib.hid (show ∀ i : Nat, i < 4 → ∃ Av nv cv YS, w13.cell? ⟨LB, i, none⟩ = some (.slice Av nv cv) ∧ Rd w13 .u8 (.slice Av nv cv) YS ∧ YS.length ≤ 1000000 ∧ ∀ x ∈ YS, 0 ≤ x ∧ x < 256 by
              intro i hi
              rcases (show i = 0 ∨ i = 1 ∨ i = 2 ∨ i = 3 by omega) with rfl | rfl | rfl | rfl
              · exact ⟨_, _, _, ZS, cell_of_block hLB 0, hRc13, hZl, HZr.out⟩
              · exact ⟨_, _, _, BG ++ raw, cell_of_block hLB 1, hR82, by rw [List.length_append, HBl.out]; omega, fun x hx => by
                  rcases List.mem_append.1 hx with h | h
                  · exact HBx.out x h
                  · exact Hraw.out x h⟩
              · exact ⟨_, _, _, raw, cell_of_block hLB 2, hRr13, by omega, Hraw.out⟩
              · exact ⟨_, _, _, BR, cell_of_block hLB 3, hR87, by rw [HRl.out]; decide, HRx.out⟩)
            clear hLB hR82 hR87 hRc13 hRr13 e14 e2 e3 hE13 HRc HZr HBr HRr HS hZl
            have hl4 := HLB.out
            go_wp2_with fail
            clear hl4
            go_loopw [15] (fun iv wr => ∃ i : Nat, i ≤ 4 ∧ iv = .int .i64 i ∧ Ext w13 wr) (fun iv wr => 4 - (intOf iv).toNat)
            case atStart => exact ⟨0, Nat.zero_le _, rfl, Ext.refl _⟩
            case round =>
              obtain ⟨i, hi, rfl, hEq⟩ := hrel
              by_cases hlt : i < 4
              · obtain ⟨Av, nv, cv, YS, hcl, hRv, hYl, hYr⟩ := ROW.out i hlt
                have hnv : YS.length = nv := by obtain ⟨A', c', he, _⟩ := hRv; injection he with _ h2 _; exact h2.symm
                have HRv := Lib.hid (RdC.ext hRv hEq)
                have hcl := hEq.cell hcl
                have HYr := Lib.hid hYr
                clear hRv hYr
                have hclA : (wr.alloc (.cells #[] 5)).cell? ⟨LB, i, none⟩ = some (.slice Av nv cv) := ((Ext.refl wr).alloc _).cell hcl
                have tka5 : True := trivial
                go_wp2_with (at_builtin; have _t := tka5; clear _t; go_must (refine wpList_append_rd (w0 := wr) rfl _ _ 26 5 .u8 1 rfl Try.underlying26 infoU8 (by decide) (.slice (some ⟨wr.heap.size, 0, none⟩) 0 0) (.slice Av nv cv) [] YS rfl rfl (World.ownsRow_lit (base := wr.heap.size) (e := 5) (size := 1) wr #[] 0 (Nat.le_refl _) (Nat.zero_le _) rfl) (RdC.ext HRv.out ((Ext.refl _).alloc _)) ((Ext.refl wr).alloc _) (by simp; omega) ?_); intro vc5 wc5 hOc5 hEc5; have HOc5 := Lib.hid hOc5; clear hOc5 tka5)
                refine (Parse_calls vc5 ([] ++ YS) wc5 (by simpa using hYl) (ownsRow.reads HOc5.out) (by simpa using HYr.out)).mono ?_
                rintro e w17 ⟨rfl, hE17⟩
                rw [List.nil_append]
                obtain ⟨x1, y1, z1, u1, k1, l1, s1, d1, hps⟩ := parsed_shape YS
                rw [hps]
                have HPS := Lib.hid hps
                obtain ⟨Fv, hFv⟩ : ∃ Q, parseF YS = Q := ⟨_, rfl⟩
                rw [hFv] at HPS ⊢
                have hEq2 := (Ext.trans hEc5 hE17)
                have hcl := hEq2.cell hcl
                have HRv := Lib.hid (RdC.ext HRv.out hEq2)
                have hEq := hEq.trans hEq2
                clear hps hFv hEq2 hE17 hEc5 HOc5 hclA
                obtain ⟨Bh7, hB7⟩ : ∃ Bh7, w17.heap.size = Bh7 := ⟨_, rfl⟩
                have Z07 := Lib.hid (show HeadAt ((w17.alloc (.cells (headCells 0 0 0 0) 30)).alloc (.cells (slotCells 0 0 0 (fun _ => 0)) 24)) Bh7 0 0 0 0 by rw [← hB7]; exact (HeadAt.new w17 0 0 0 0).ext ((Ext.refl _).alloc _))
                have Z17 := Lib.hid (show SlotAt ((w17.alloc (.cells (headCells 0 0 0 0) 30)).alloc (.cells (slotCells 0 0 0 (fun _ => 0)) 24)) (Bh7 + 1) 0 0 0 (fun _ => 0) by
                  rw [← hB7]; have := SlotAt.new (w17.alloc (.cells (headCells 0 0 0 0) 30)) 0 0 0 (fun _ => 0); rwa [World.size_alloc] at this)
                have hEp7 : Ext w17 ((w17.alloc (.cells (headCells 0 0 0 0) 30)).alloc (.cells (slotCells 0 0 0 (fun _ => 0)) 24)) := ((Ext.refl w17).alloc _).alloc _
                have Hb7 := Lib.hid hB7
                clear hB7
                have tkh7 : True := trivial
                have tks7 : True := trivial
                obtain ⟨w18, hw18⟩ : ∃ Q, (((w17.alloc (.cells (headCells 0 0 0 0) 30)).alloc (.cells (slotCells 0 0 0 (fun _ => 0)) 24)).setRow Bh7 (headCells x1 y1 z1 u1)).setRow (Bh7 + 1) (slotCells k1 l1 s1 d1) = Q := ⟨_, rfl⟩
                have hE78 : Ext w17 w18 := hw18 ▸ ((Ext.refl w17).trans ((hEp7.row (Nat.le_of_eq Hb7.out) _).row (by have := Hb7.out; omega) _))
                have hcl8 := hE78.cell hcl
                clear hcl
                go_wp2_with (first | (have _t := tkh7; clear _t; (try rw [Hb7.out]); refine wpList_store_row rfl 30 _ _ rfl Bh7 (headCells x1 y1 z1 u1) rfl rfl 30 (headCells 0 0 0 0) Z07.out (head_info ..) rfl (head_one ..) ?_; clear tkh7) | (have _t := tks7; clear _t; refine wpList_store_row rfl 24 _ _ rfl (Bh7 + 1) (slotCells k1 l1 s1 d1) rfl rfl 24 (slotCells 0 0 0 (fun _ => 0)) (row_keep Z17.out (by omega)) (slot_info ..) rfl (slot_one ..) ?_; clear tks7))
                (try rw [hw18])
                have HH7 := Lib.hid (show HeadAt w18 Bh7 x1 y1 z1 u1 from hw18 ▸ (row_keep (row_at Z07.out) (by omega)))
                have HS7 := Lib.hid (show SlotAt w18 (Bh7 + 1) k1 l1 s1 d1 from hw18 ▸ (row_at (row_keep Z17.out (by omega))))
                have HRv := Lib.hid (RdC.ext HRv.out hE78)
                have hEq := hEq.trans hE78
                clear hw18 hE78 Z07 Z17 Hb7 hEp7 hcl8
                refine (DParse_calls _ YS w18 hYl HRv.out HYr.out).mono ?_
                rintro e w19 ⟨rfl, hE19⟩
                rw [HPS.out]
                have HH7 := Lib.hid (HH7.out.ext hE19)
                have HS7 := Lib.hid (HS7.out.ext hE19)
                have hEq := hEq.trans hE19
                have hs7 := HS7.out.lt
                clear hE19 HRv HYr hYl HPS
                obtain ⟨Bh9, hB9⟩ : ∃ Bh9, w19.heap.size = Bh9 := ⟨_, rfl⟩
                have Z09 := Lib.hid (show HeadAt ((w19.alloc (.cells (headCells 0 0 0 0) 30)).alloc (.cells (slotCells 0 0 0 (fun _ => 0)) 24)) Bh9 0 0 0 0 by rw [← hB9]; exact (HeadAt.new w19 0 0 0 0).ext ((Ext.refl _).alloc _))
                have Z19 := Lib.hid (show SlotAt ((w19.alloc (.cells (headCells 0 0 0 0) 30)).alloc (.cells (slotCells 0 0 0 (fun _ => 0)) 24)) (Bh9 + 1) 0 0 0 (fun _ => 0) by
                  rw [← hB9]; have := SlotAt.new (w19.alloc (.cells (headCells 0 0 0 0) 30)) 0 0 0 (fun _ => 0); rwa [World.size_alloc] at this)
                have hEp9 : Ext w19 ((w19.alloc (.cells (headCells 0 0 0 0) 30)).alloc (.cells (slotCells 0 0 0 (fun _ => 0)) 24)) := ((Ext.refl w19).alloc _).alloc _
                have Hb9 := Lib.hid hB9
                clear hB9
                have tkh9 : True := trivial
                have tks9 : True := trivial
                have qh : ∀ w, (Op.equalIn 10000 30 (headVal x1 y1 z1 u1) (headVal x1 y1 z1 u1)).run Try.prog w = .ok true w := fun w => by rw [eq_head]; simp [headB]
                have qs : ∀ w, (Op.equalIn 10000 24 (slotVal k1 l1 s1 d1) (slotVal k1 l1 s1 d1)).run Try.prog w = .ok true w := fun w => by rw [eq_slot]; simp [slotB]
                have q9 : ∀ w, (Op.equalIn 9999 22 (.agg (dataCells d1)) (.agg (dataCells d1))).run Try.prog w = .ok true w := fun w => by rw [eq_data9]; simp
                have tq0 : True := trivial
                have NHH7 := Lib.hid (show Bh7 ≠ Bh9 by have := Hb9.out; omega)
                have MHH7 := Lib.hid (show Bh7 ≠ Bh9 + 1 by have := Hb9.out; omega)
                have NHS7 := Lib.hid (show Bh7 + 1 ≠ Bh9 by have := Hb9.out; omega)
                have MHS7 := Lib.hid (show Bh7 + 1 ≠ Bh9 + 1 by have := Hb9.out; omega)
                clear hs7
                go_wp2_with (first | (have _t := tq0; clear _t; (try rw [Hb9.out]); refine wpList_store_row rfl 30 _ _ rfl Bh9 (headCells x1 y1 z1 u1) rfl rfl 30 (headCells 0 0 0 0) Z09.out (head_info ..) rfl (head_one ..) ?_; clear tq0; have tq1 : True := trivial) | (have _t := tq1; clear _t; refine wpList_store_row rfl 24 _ _ rfl (Bh9 + 1) (slotCells k1 l1 s1 d1) rfl rfl 24 (slotCells 0 0 0 (fun _ => 0)) (row_keep Z19.out (by omega)) (slot_info ..) rfl (slot_one ..) ?_; clear tq1; have tq2 : True := trivial) | (have _t := tq2; clear _t; refine wpList_load_row rfl 30 _ rfl Bh7 rfl 30 (headCells x1 y1 z1 u1) (0, 0) _ (row_keep (row_keep (HH7.out.ext hEp9) NHH7.out) MHH7.out) Try.underlying30 rfl (head_info ..) ?_; clear tq2; have tq3 : True := trivial) | (have _t := tq3; clear _t; refine wpList_load_row rfl 30 _ rfl Bh9 rfl 30 (headCells x1 y1 z1 u1) (0, 0) _ (row_keep (row_at Z09.out) (by omega)) Try.underlying30 rfl (head_info ..) ?_; clear tq3; have tq4 : True := trivial) | (have _t := tq4; clear _t; refine wpList_load_rowg (by rfl) 24 _ rfl (Bh7 + 1) rfl 24 (slotCells k1 l1 s1 d1) (0, 0) _ (row_keep (row_keep (HS7.out.ext hEp9) NHS7.out) MHS7.out) Try.underlying24 rfl (slot_info ..) ?_; clear tq4; have tq5 : True := trivial) | (have _t := tq5; clear _t; refine wpList_load_rowg (by rfl) 24 _ rfl (Bh9 + 1) rfl 24 (slotCells k1 l1 s1 d1) (0, 0) _ (row_at (row_keep Z19.out (by omega))) Try.underlying24 rfl (slot_info ..) ?_; clear tq5))
                go_roundw
                case rel => exact ⟨i + 1, by omega, by go_num, hEq.trans ((Ext.refl w19).trans ((hEp9.row (Nat.le_of_eq Hb9.out) _).row (by have := Hb9.out; omega) _))⟩
                case measure => simp [intOf]; omega
              · obtain rfl : i = 4 := by omega
                rw [show ((4 : Nat) : Int) = 4 from rfl]
                go_wp2_with fail
                go_ret
                exact ⟨rfl, hE3w.trans hEq⟩
end Go.Proofs.Ytmbjebdkhcpclaa
