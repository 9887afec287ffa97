/-
  The walk of the law EntryUnlike. Printed by mk_EntryUnlike.py.
-/
import Derived.Test.YtmbjebdkhcpclaaEntryCuts
import Derived.Test.YtmbjebdkhcpclaaOq
import Derived.Test.YtmbjebdkhcpclaaEPb
set_option linter.unusedSimpArgs false
set_option linter.unusedVariables false
namespace Go.Proofs.Ytmbjebdkhcpclaa
open Go.RowKit
attribute [local go_sem] slotEval

theorem vals_inj {a b c e k l s : Int} {d : Nat → Int} {a' b' c' e' k' l' s' : Int} {d' : Nat → Int} (h : Value.tuple #[headVal a b c e, slotVal k l s d, .int .i64 0] = .tuple #[headVal a' b' c' e', slotVal k' l' s' d', .int .i64 0]) :
    headB a b c e a' b' c' e' = true ∧ slotB k l s d k' l' s' d' = true := by
  rw [headB_iff, slotB_iff]
  simp only [Value.tuple.injEq, Array.mk.injEq, List.cons.injEq, Value.agg.injEq, Value.int.injEq, true_and, and_true] at h
  obtain ⟨⟨h1, h2, h3, h4⟩, g1, g2, g3, g⟩ := h
  refine ⟨⟨h1, h2, h3, h4⟩, g1, g2, g3, fun j hj => ?_⟩
  obtain ⟨q0, q1, q2, q3, q4, q5, q6, q7, q8, q9, q10, q11, q12, q13, q14, q15⟩ := g
  rcases (show j = 0 ∨ j = 1 ∨ j = 2 ∨ j = 3 ∨ j = 4 ∨ j = 5 ∨ j = 6 ∨ j = 7 ∨ j = 8 ∨ j = 9 ∨ j = 10 ∨ j = 11 ∨ j = 12 ∨ j = 13 ∨ j = 14 ∨ j = 15 by omega) with rfl | rfl | rfl | rfl | rfl | rfl | rfl | rfl | rfl | rfl | rfl | rfl | rfl | rfl | rfl | rfl <;> assumption
theorem dataList_congr (d e : Nat → Int) (h : ∀ j, j < 16 → d j = e j) : dataList d = dataList e := by
  unfold dataList
  rw [h 0 (by decide), h 1 (by decide), h 2 (by decide), h 3 (by decide), h 4 (by decide), h 5 (by decide), h 6 (by decide), h 7 (by decide), h 8 (by decide), h 9 (by decide), h 10 (by decide), h 11 (by decide), h 12 (by decide), h 13 (by decide), h 14 (by decide), h 15 (by decide)]
theorem entryBytes_range (a b c e k l s : Int) (d : Nat → Int) (hd : ∀ j, j < 16 → 0 ≤ d j ∧ d j < 256) : ∀ x ∈ entryBytes a b c e k l s d, 0 ≤ x ∧ x < 256 :=
  entryZ_range a b c e k l s d _ hd (fun x hx => by rw [List.eq_of_mem_replicate hx]; decide)
/-- Bytes of good slots are the same text just where heads and slots are the same. -/
theorem said_bytes (a b c e k l s : Int) (d : Nat → Int) (a' b' c' e' k' l' s' : Int) (d' : Nat → Int) (ha : 1 ≤ a ∧ a ≤ 1099511627776) (hb : 0 ≤ b ∧ b < 256) (hc : 0 ≤ c ∧ c < 256) (he : 0 ≤ e ∧ e < 256)
    (ha' : 1 ≤ a' ∧ a' ≤ 1099511627776) (hb' : 0 ≤ b' ∧ b' < 256) (hc' : 0 ≤ c' ∧ c' < 256) (he' : 0 ≤ e' ∧ e' < 256) (hd : ∀ j, j < 16 → 0 ≤ d j ∧ d j < 256) (hd' : ∀ j, j < 16 → 0 ≤ d' j ∧ d' j < 256)
    (hp : ∀ a b c e, 1 ≤ a ∧ a ≤ 1099511627776 → parsed (entryBytes a b c e k l s d) = .tuple #[headVal a (b % 256) (c % 256) (e % 256), slotVal k l s d, .int .i64 0])
    (hp' : ∀ a b c e, 1 ≤ a ∧ a ≤ 1099511627776 → parsed (entryBytes a b c e k' l' s' d') = .tuple #[headVal a (b % 256) (c % 256) (e % 256), slotVal k' l' s' d', .int .i64 0]) :
    ((strOfNums (entryBytes a b c e k l s d)).toList == (strOfNums (entryBytes a' b' c' e' k' l' s' d')).toList) = (slotB k l s d k' l' s' d' && headB a b c e a' b' c' e') := by
  rw [Bool.eq_iff_iff, Bool.and_eq_true, beq_iff_eq]
  constructor
  · intro h
    have h1 := strOfNums_inj _ _ (entryBytes_range a b c e k l s d hd) (entryBytes_range a' b' c' e' k' l' s' d' hd') h
    have h2 := congrArg parsed h1
    rw [hp a b c e ha, hp' a' b' c' e' ha', show b % 256 = b by omega, show c % 256 = c by omega, show e % 256 = e by omega, show b' % 256 = b' by omega, show c' % 256 = c' by omega, show e' % 256 = e' by omega] at h2
    have h3 := vals_inj h2
    exact ⟨h3.2, h3.1⟩
  · rintro ⟨h1, h2⟩
    rw [slotB_iff] at h1
    rw [headB_iff] at h2
    obtain ⟨rfl, rfl, rfl, h1⟩ := h1
    obtain ⟨rfl, rfl, rfl, rfl⟩ := h2
    unfold entryBytes
    rw [dataList_congr d d' h1]

set_option maxHeartbeats 8000000 in
set_option maxRecDepth 100000 in
theorem EntryUnlike_walk (k1 l1 s1 : Int) (d1 : Nat → Int) (k2 l2 s2 : Int) (d2 : Nat → Int) (x1 y1 z1 u1 x2 y2 z2 u2 : Int) (w00 : World) (hk1 : (Lit.int .i64 k1).wf = true) (hl1 : (Lit.int .i64 l1).wf = true) (hs1 : (Lit.int .i64 s1).wf = true) (hd1 : ∀ j, j < 16 → 0 ≤ d1 j ∧ d1 j < 256)
    (hk2 : (Lit.int .i64 k2).wf = true) (hl2 : (Lit.int .i64 l2).wf = true) (hs2 : (Lit.int .i64 s2).wf = true) (hd2 : ∀ j, j < 16 → 0 ≤ d2 j ∧ d2 j < 256) (hx1 : (Lit.int .i64 x1).wf = true) (hy1 : (Lit.int .i64 y1).wf = true) (hz1 : (Lit.int .i64 z1).wf = true) (hu1 : (Lit.int .i64 u1).wf = true)
    (hx2 : (Lit.int .i64 x2).wf = true) (hy2 : (Lit.int .i64 y2).wf = true) (hz2 : (Lit.int .i64 z2).wf = true) (hu2 : (Lit.int .i64 u2).wf = true) :
    Calls Try.prog 9 #[slotVal k1 l1 s1 d1, slotVal k2 l2 s2 d2, headVal x1 y1 z1 u1, headVal x2 y2 z2 u2] w00 fun e w' => e = .returned (.bool true) ∧ Ext w00 w' := by
  have Hd1 := Lib.hid hd1
  have Hd2 := Lib.hid hd2
  clear hd1 hd2
  have Hk1 := Lib.hid (bounds_i64 hk1)
  have Hl1 := Lib.hid (bounds_i64 hl1)
  have Hs1 := Lib.hid (bounds_i64 hs1)
  have Hk2 := Lib.hid (bounds_i64 hk2)
  have Hl2 := Lib.hid (bounds_i64 hl2)
  have Hs2 := Lib.hid (bounds_i64 hs2)
  have Hx1 := Lib.hid (bounds_i64 hx1)
  have Hy1 := Lib.hid (bounds_i64 hy1)
  have Hz1 := Lib.hid (bounds_i64 hz1)
  have Hu1 := Lib.hid (bounds_i64 hu1)
  have Hx2 := Lib.hid (bounds_i64 hx2)
  have Hy2 := Lib.hid (bounds_i64 hy2)
  have Hz2 := Lib.hid (bounds_i64 hz2)
  have Hu2 := Lib.hid (bounds_i64 hu2)
  clear hk1 hl1 hs1 hk2 hl2 hs2 hx1 hy1 hz1 hu1 hx2 hy2 hz2 hu2
  go_enter Try.func9, Try.ntmps9
  go_wp2_with fail
  obtain ⟨B, hB⟩ : ∃ B, w00.heap.size = B := ⟨_, rfl⟩
  obtain ⟨wA, hwA⟩ : ∃ wA, (((w00.alloc (.cells (slotCells k1 l1 s1 d1) 24)).alloc (.cells (slotCells k2 l2 s2 d2) 24)).alloc (.cells (headCells x1 y1 z1 u1) 30)).alloc (.cells (headCells x2 y2 z2 u2) 30) = wA := ⟨_, rfl⟩
  have e1 : (w00.alloc (.cells (slotCells k1 l1 s1 d1) 24)).heap.size = B + 1 := by rw [World.size_alloc, hB]
  have e2 : ((w00.alloc (.cells (slotCells k1 l1 s1 d1) 24)).alloc (.cells (slotCells k2 l2 s2 d2) 24)).heap.size = B + 2 := by rw [World.size_alloc, e1]
  have e3 : (((w00.alloc (.cells (slotCells k1 l1 s1 d1) 24)).alloc (.cells (slotCells k2 l2 s2 d2) 24)).alloc (.cells (headCells x1 y1 z1 u1) 30)).heap.size = B + 3 := by rw [World.size_alloc, e2]
  have HS1 := Lib.hid (show SlotAt wA B k1 l1 s1 d1 by rw [← hwA, ← hB]; exact (SlotAt.new w00 k1 l1 s1 d1).ext ((((Ext.refl _).alloc _).alloc _).alloc _))
  have HS2 := Lib.hid (show SlotAt wA (B + 1) k2 l2 s2 d2 by rw [← hwA, ← e1]; exact (SlotAt.new _ k2 l2 s2 d2).ext (((Ext.refl _).alloc _).alloc _))
  have HH1 := Lib.hid (show HeadAt wA (B + 2) x1 y1 z1 u1 by rw [← hwA, ← e2]; exact (HeadAt.new _ x1 y1 z1 u1).ext ((Ext.refl _).alloc _))
  have HH2 := Lib.hid (show HeadAt wA (B + 3) x2 y2 z2 u2 by rw [← hwA, ← e3]; exact HeadAt.new _ x2 y2 z2 u2)
  have hE0 : Ext w00 wA := hwA ▸ (((((Ext.refl w00).alloc _).alloc _).alloc _).alloc _)
  rw [hwA]
  (try rw [hB])
  clear hwA hB e1 e2 e3
  refine (known10_calls wA).mono ?_
  rintro e wk ⟨rfl, hE1⟩
  have HS1 := Lib.hid (HS1.out.ext hE1)
  have HS2 := Lib.hid (HS2.out.ext hE1)
  have HH1 := Lib.hid (HH1.out.ext hE1)
  have HH2 := Lib.hid (HH2.out.ext hE1)
  have hE := hE0.trans hE1
  clear hE0 hE1
  obtain ⟨K1, hK1⟩ : ∃ Q, k1 % 4 = Q := ⟨_, rfl⟩
  obtain ⟨L1, hL1⟩ : ∃ Q, goodL k1 l1 = Q := ⟨_, rfl⟩
  obtain ⟨S1, hS1⟩ : ∃ Q, goodS k1 s1 = Q := ⟨_, rfl⟩
  obtain ⟨D1, hD1⟩ : ∃ Q, goodD k1 d1 = Q := ⟨_, rfl⟩
  have GC1 := Lib.hid (show ∀ w, Calls Try.prog 12 #[slotVal k1 l1 s1 d1] w fun e w' => e = .returned (slotVal K1 L1 S1 D1) ∧ Ext w w' from fun w => by
    have h := Good_calls k1 l1 s1 d1 w Hk1.out Hl1.out Hs1.out
    rw [hK1, hL1, hS1, hD1] at h
    exact h)
  have PG1 := Lib.hid (show ∀ a b c e, 1 ≤ a ∧ a ≤ 1099511627776 → parsed (entryBytes a b c e K1 L1 S1 D1) = .tuple #[headVal a (b % 256) (c % 256) (e % 256), slotVal K1 L1 S1 D1, .int .i64 0] from fun a b c e h => by
    have h := parsed_good a b c e k1 l1 s1 d1 h
    rw [hK1, hL1, hS1, hD1] at h
    exact h)
  have HDr1 := Lib.hid (hD1 ▸ goodD_range k1 d1 Hd1.out)
  clear hK1 hL1 hS1 hD1
  obtain ⟨K2, hK2⟩ : ∃ Q, k2 % 4 = Q := ⟨_, rfl⟩
  obtain ⟨L2, hL2⟩ : ∃ Q, goodL k2 l2 = Q := ⟨_, rfl⟩
  obtain ⟨S2, hS2⟩ : ∃ Q, goodS k2 s2 = Q := ⟨_, rfl⟩
  obtain ⟨D2, hD2⟩ : ∃ Q, goodD k2 d2 = Q := ⟨_, rfl⟩
  have GC2 := Lib.hid (show ∀ w, Calls Try.prog 12 #[slotVal k2 l2 s2 d2] w fun e w' => e = .returned (slotVal K2 L2 S2 D2) ∧ Ext w w' from fun w => by
    have h := Good_calls k2 l2 s2 d2 w Hk2.out Hl2.out Hs2.out
    rw [hK2, hL2, hS2, hD2] at h
    exact h)
  have PG2 := Lib.hid (show ∀ a b c e, 1 ≤ a ∧ a ≤ 1099511627776 → parsed (entryBytes a b c e K2 L2 S2 D2) = .tuple #[headVal a (b % 256) (c % 256) (e % 256), slotVal K2 L2 S2 D2, .int .i64 0] from fun a b c e h => by
    have h := parsed_good a b c e k2 l2 s2 d2 h
    rw [hK2, hL2, hS2, hD2] at h
    exact h)
  have HDr2 := Lib.hid (hD2 ▸ goodD_range k2 d2 Hd2.out)
  clear hK2 hL2 hS2 hD2
  obtain ⟨X1, hX1⟩ : ∃ Q, x1 % 99 = Q := ⟨_, rfl⟩
  have HWX1 := Lib.hid (show ∀ w, Calls Try.prog 13 #[.int .i64 x1, .int .i64 99] w fun e w' => e = .returned (.int .i64 X1) ∧ w = w' from fun w => hX1 ▸ within_calls x1 99 w (by decide) (by decide) Hx1.out)
  have HRX1 := Lib.hid (show 0 ≤ X1 ∧ X1 < 99 by omega)
  have HFX1 := Lib.hid (show IntKind.i64.wrap (1 + X1) = 1 + X1 by rw [IntKind.wrap_i64]; omega)
  clear hX1
  obtain ⟨Y1, hY1⟩ : ∃ Q, y1 % 256 = Q := ⟨_, rfl⟩
  have HWY1 := Lib.hid (show ∀ w, Calls Try.prog 13 #[.int .i64 y1, .int .i64 256] w fun e w' => e = .returned (.int .i64 Y1) ∧ w = w' from fun w => hY1 ▸ within_calls y1 256 w (by decide) (by decide) Hy1.out)
  have HRY1 := Lib.hid (show 0 ≤ Y1 ∧ Y1 < 256 by omega)
  clear hY1
  obtain ⟨Z1, hZ1⟩ : ∃ Q, z1 % 256 = Q := ⟨_, rfl⟩
  have HWZ1 := Lib.hid (show ∀ w, Calls Try.prog 13 #[.int .i64 z1, .int .i64 256] w fun e w' => e = .returned (.int .i64 Z1) ∧ w = w' from fun w => hZ1 ▸ within_calls z1 256 w (by decide) (by decide) Hz1.out)
  have HRZ1 := Lib.hid (show 0 ≤ Z1 ∧ Z1 < 256 by omega)
  clear hZ1
  obtain ⟨U1, hU1⟩ : ∃ Q, u1 % 256 = Q := ⟨_, rfl⟩
  have HWU1 := Lib.hid (show ∀ w, Calls Try.prog 13 #[.int .i64 u1, .int .i64 256] w fun e w' => e = .returned (.int .i64 U1) ∧ w = w' from fun w => hU1 ▸ within_calls u1 256 w (by decide) (by decide) Hu1.out)
  have HRU1 := Lib.hid (show 0 ≤ U1 ∧ U1 < 256 by omega)
  clear hU1
  obtain ⟨X2, hX2⟩ : ∃ Q, x2 % 99 = Q := ⟨_, rfl⟩
  have HWX2 := Lib.hid (show ∀ w, Calls Try.prog 13 #[.int .i64 x2, .int .i64 99] w fun e w' => e = .returned (.int .i64 X2) ∧ w = w' from fun w => hX2 ▸ within_calls x2 99 w (by decide) (by decide) Hx2.out)
  have HRX2 := Lib.hid (show 0 ≤ X2 ∧ X2 < 99 by omega)
  have HFX2 := Lib.hid (show IntKind.i64.wrap (1 + X2) = 1 + X2 by rw [IntKind.wrap_i64]; omega)
  clear hX2
  obtain ⟨Y2, hY2⟩ : ∃ Q, y2 % 256 = Q := ⟨_, rfl⟩
  have HWY2 := Lib.hid (show ∀ w, Calls Try.prog 13 #[.int .i64 y2, .int .i64 256] w fun e w' => e = .returned (.int .i64 Y2) ∧ w = w' from fun w => hY2 ▸ within_calls y2 256 w (by decide) (by decide) Hy2.out)
  have HRY2 := Lib.hid (show 0 ≤ Y2 ∧ Y2 < 256 by omega)
  clear hY2
  obtain ⟨Z2, hZ2⟩ : ∃ Q, z2 % 256 = Q := ⟨_, rfl⟩
  have HWZ2 := Lib.hid (show ∀ w, Calls Try.prog 13 #[.int .i64 z2, .int .i64 256] w fun e w' => e = .returned (.int .i64 Z2) ∧ w = w' from fun w => hZ2 ▸ within_calls z2 256 w (by decide) (by decide) Hz2.out)
  have HRZ2 := Lib.hid (show 0 ≤ Z2 ∧ Z2 < 256 by omega)
  clear hZ2
  obtain ⟨U2, hU2⟩ : ∃ Q, u2 % 256 = Q := ⟨_, rfl⟩
  have HWU2 := Lib.hid (show ∀ w, Calls Try.prog 13 #[.int .i64 u2, .int .i64 256] w fun e w' => e = .returned (.int .i64 U2) ∧ w = w' from fun w => hU2 ▸ within_calls u2 256 w (by decide) (by decide) Hu2.out)
  have HRU2 := Lib.hid (show 0 ≤ U2 ∧ U2 < 256 by omega)
  clear hU2
  go_wp2_with fail
  refine wp_region_lives_fresh 6 mixed Ext [[0], [1], [2], [3], [4], [5]]
      [.val _ (· = slotVal k1 l1 s1 d1),
       .val _ (· = slotVal K1 L1 S1 D1),
       .val _ (· = slotVal k2 l2 s2 d2),
       .val _ (· = slotVal K2 L2 S2 D2),
       .one _ (fun v ww => ∃ b, v = .pointer (some ⟨b, 0, none⟩) ∧ wk.heap.size ≤ b ∧ SlotAt ww b 0 0 0 (fun _ => 0)) ((fun v w w' hE ⟨b, e, h1, h2⟩ => ⟨b, e, h1, h2.ext hE⟩)),
       .one _ (fun v ww => ∃ b, v = .pointer (some ⟨b, 0, none⟩) ∧ wk.heap.size ≤ b ∧ SlotAt ww b 0 0 0 (fun _ => 0)) ((fun v w w' hE ⟨b, e, h1, h2⟩ => ⟨b, e, h1, h2.ext hE⟩))]
      Ext.refl (fun _ _ _ h k => h.trans k) [(4, (.cells (slotCells 0 0 0 (fun _ => 0)) 24)), (5, (.cells (slotCells 0 0 0 (fun _ => 0)) 24))] (by intro x hx o ho; simp only [List.mem_cons, List.not_mem_nil, or_false] at hx; rcases hx with rfl | rfl <;> (obtain rfl := Option.some.inj ho; exact ⟨rfl, fun ρ w => by first | exact op_alloc_slot rfl | exact op_alloc_head rfl⟩)) (fun _ _ h => h.size) (by kernel_rfl) rfl (by kernel_rfl) (by kernel_rfl) ?steps ?post
  case steps =>
    refine ⟨?_, ?_, ?_, ?_, ?_, ?_, trivial⟩
    · refine factg_of (fact_pure Ext.refl fun σ w hE hold hk => ?_)
      have h4 : σ 4 = .pointer (some ⟨B, 0, none⟩) := hold 4 (by kernel_rfl)
      exact ⟨rfl, _, op_load_slot rfl h4 (HS1.out.ext (Ext.of_drew hE)), rfl⟩
    · refine factg_of fun σ w hE hold hk => ?_
      have h15 : σ 15 = slotVal k1 l1 s1 d1 := hk.1
      refine ⟨rfl, Does.call (op_call1 rfl Try.func12 (by kernel_rfl) (by kernel_rfl) h15) (GC1.out w) ?_⟩
      rintro e w' ⟨rfl, hE'⟩
      exact ⟨_, rfl, hE', rfl⟩
    · refine factg_of (fact_pure Ext.refl fun σ w hE hold hk => ?_)
      have h5 : σ 5 = .pointer (some ⟨(B + 1), 0, none⟩) := hold 5 (by kernel_rfl)
      exact ⟨rfl, _, op_load_slot rfl h5 (HS2.out.ext (Ext.of_drew hE)), rfl⟩
    · refine factg_of fun σ w hE hold hk => ?_
      have h17 : σ 17 = slotVal k2 l2 s2 d2 := hk.1
      refine ⟨rfl, Does.call (op_call1 rfl Try.func12 (by kernel_rfl) (by kernel_rfl) h17) (GC2.out w) ?_⟩
      rintro e w' ⟨rfl, hE'⟩
      exact ⟨_, rfl, hE', rfl⟩
    · refine factg_of fun σ w hE hold hk => ?_
      exact ⟨rfl, Does.ok (op_alloc_slot rfl) ⟨(Ext.refl w).alloc _, w.heap.size, rfl, (Ext.of_drew hE).size, SlotAt.new w 0 0 0 (fun _ => 0)⟩⟩
    · refine factg_of fun σ w hE hold hk => ?_
      exact ⟨rfl, Does.ok (op_alloc_slot rfl) ⟨(Ext.refl w).alloc _, w.heap.size, rfl, (Ext.of_drew hE).size, SlotAt.new w 0 0 0 (fun _ => 0)⟩⟩
  case post =>
    intro σ w3 hE3 hL hAp
    have h16 : σ 16 = slotVal K1 L1 S1 D1 := hL.2.1
    have h18 : σ 18 = slotVal K2 L2 S2 D2 := hL.2.2.2.1
    have h9 : (fun v ww => ∃ b, v = .pointer (some ⟨b, 0, none⟩) ∧ wk.heap.size ≤ b ∧ SlotAt ww b 0 0 0 (fun _ => 0)) (σ 9) w3 := hL.2.2.2.2.1
    have h10 : (fun v ww => ∃ b, v = .pointer (some ⟨b, 0, none⟩) ∧ wk.heap.size ≤ b ∧ SlotAt ww b 0 0 0 (fun _ => 0)) (σ 10) w3 := hL.2.2.2.2.2.1
    clear hL
    simp only [putAll, List.take_succ_cons, List.take_zero, List.drop_succ_cons, List.drop_zero, List.map_cons, List.map_nil, List.zip_cons_cons, List.zip_nil_right, List.foldl_cons, List.foldl_nil, Act.put, Option.getD_some, List.setIfInBounds_toArray, List.set_cons_zero, List.set_cons_succ]
    rw [h16]; clear h16
    rw [h18]; clear h18
    obtain ⟨b9, e9, hb9, hS9⟩ := h9
    obtain ⟨b10, e10, hb10, hS10⟩ := h10
    have hne : b9 ≠ b10 := fun e => hAp (4, (.cells (slotCells 0 0 0 (fun _ => 0)) 24)) (by simp) (5, (.cells (slotCells 0 0 0 (fun _ => 0)) 24)) (by simp) (by show 4 < 6; decide) (by show 5 < 6; decide) (by show ¬ 4 = 5; decide) (by show σ 9 = σ 10; rw [e9, e10, e])
    clear hAp
    rw [e9, e10]
    clear e9 e10
    have HZ9 := Lib.hid hS9
    have HZ10 := Lib.hid hS10
    clear hS9 hS10
    have hb9w := HZ9.out.lt
    have hb10w := HZ10.out.lt
    have tok1 : True := trivial
    have tok2 : True := trivial
    go_wp2_with (first | (have _t := tok1; clear _t; refine wpList_store_row rfl 24 _ _ rfl b9 (slotCells K1 L1 S1 D1) rfl rfl 24 (slotCells 0 0 0 (fun _ => 0)) HZ9.out (slot_info ..) rfl (slot_one ..) ?_; clear tok1) | (have _t := tok2; clear _t; refine wpList_store_row rfl 24 _ _ rfl b10 (slotCells K2 L2 S2 D2) rfl rfl 24 (slotCells 0 0 0 (fun _ => 0)) (row_keep HZ10.out hne.symm) (slot_info ..) rfl (slot_one ..) ?_; clear tok2))
    obtain ⟨w4, hw4⟩ : ∃ w4, (w3.setRow b9 (slotCells K1 L1 S1 D1)).setRow b10 (slotCells K2 L2 S2 D2) = w4 := ⟨_, rfl⟩
    rw [hw4]
    have HG1 := Lib.hid (show SlotAt w4 b9 K1 L1 S1 D1 from hw4 ▸ row_keep (row_at HZ9.out) hne)
    have HG2 := Lib.hid (show SlotAt w4 b10 K2 L2 S2 D2 from hw4 ▸ row_at (row_keep HZ10.out hne.symm))
    have hE34 : Ext wk w4 := hw4 ▸ ((Ext.of_drew hE3).row hb9 _).row hb10 _
    have HH1 := Lib.hid (HH1.out.ext hE34)
    have HH2 := Lib.hid (HH2.out.ext hE34)
    have hE := hE.trans hE34
    clear hE34 hw4 hE3 HZ9 HZ10 HS1 HS2 hb9 hb10 hb9w hb10w
    refine wp_region_lives_tail 15 mixed Ext [[0], [1], [2], [3], [4], [5], [6], [7], [8], [9], [10], [11], [12], [13], [14]]
        [.val _ (· = .pointer (some ⟨(B + 2), 0, none⟩)),
         .val _ (· = .int .i64 x1),
         .val _ (· = .int .i64 X1),
         .val _ (· = .int .i64 (1 + X1)),
         .val _ (· = .pointer (some ⟨(B + 2), 1, none⟩)),
         .val _ (· = .int .i64 y1),
         .val _ (· = .int .i64 Y1),
         .val _ (· = .pointer (some ⟨(B + 2), 2, none⟩)),
         .val _ (· = .int .i64 z1),
         .val _ (· = .int .i64 Z1),
         .val _ (· = .pointer (some ⟨(B + 2), 3, none⟩)),
         .val _ (· = .int .i64 u1),
         .val _ (· = .int .i64 U1),
         .val _ (· = headVal (1 + X1) Y1 Z1 U1),
         .one _ (fun v ww => ∃ b, v = .pointer (some ⟨b, 0, none⟩) ∧ w4.heap.size ≤ b ∧ HeadAt ww b 0 0 0 0) ((fun v w w' hE ⟨b, e, h1, h2⟩ => ⟨b, e, h1, h2.ext hE⟩))]
        Ext.refl (fun _ _ _ h k => h.trans k) (by kernel_rfl) rfl (by kernel_rfl) (by kernel_rfl) ?steps ?post
    case steps =>
      refine ⟨?_, ?_, ?_, ?_, ?_, ?_, ?_, ?_, ?_, ?_, ?_, ?_, ?_, ?_, ?_, trivial⟩
      · refine factg_of (fact_pure Ext.refl fun σ w hE hold hk => ?_)
        have h6 : σ 6 = .pointer (some ⟨(B + 2), 0, none⟩) := hold 6 (by kernel_rfl)
        exact ⟨rfl, .pointer (some ⟨(B + 2), 0, none⟩), by go_simp, rfl⟩
      · refine factg_of (fact_pure Ext.refl fun σ w hE hold hk => ?_)
        have h19 : σ 19 = .pointer (some ⟨(B + 2), 0, none⟩) := hk.1
        have hcl := (HH1.out.ext (Ext.of_drew hE)).cells.1.1
        exact ⟨rfl, .int .i64 x1, by go_simp, rfl⟩
      · refine factg_of fun σ w hE hold hk => ?_
        have h20 : σ 20 = .int .i64 x1 := hk.1
        refine ⟨rfl, Does.call (op_call2 rfl Try.func13 (by kernel_rfl) (by kernel_rfl) h20 (rfl)) (HWX1.out w) ?_⟩
        rintro e w' ⟨rfl, rfl⟩
        exact ⟨_, rfl, Ext.refl _, rfl⟩
      · refine factg_of (fact_pure Ext.refl fun σ w hE hold hk => ?_)
        have h21 : σ 21 = .int .i64 X1 := hk.1
        have hx := HFX1.out
        exact ⟨rfl, .int .i64 (1 + X1), by go_simp, rfl⟩
      · refine factg_of (fact_pure Ext.refl fun σ w hE hold hk => ?_)
        have h6 : σ 6 = .pointer (some ⟨(B + 2), 0, none⟩) := hold 6 (by kernel_rfl)
        exact ⟨rfl, .pointer (some ⟨(B + 2), 1, none⟩), by go_simp, rfl⟩
      · refine factg_of (fact_pure Ext.refl fun σ w hE hold hk => ?_)
        have h23 : σ 23 = .pointer (some ⟨(B + 2), 1, none⟩) := hk.1
        have hcl := (HH1.out.ext (Ext.of_drew hE)).cells.1.2.1
        exact ⟨rfl, .int .i64 y1, by go_simp, rfl⟩
      · refine factg_of fun σ w hE hold hk => ?_
        have h24 : σ 24 = .int .i64 y1 := hk.1
        refine ⟨rfl, Does.call (op_call2 rfl Try.func13 (by kernel_rfl) (by kernel_rfl) h24 (rfl)) (HWY1.out w) ?_⟩
        rintro e w' ⟨rfl, rfl⟩
        exact ⟨_, rfl, Ext.refl _, rfl⟩
      · refine factg_of (fact_pure Ext.refl fun σ w hE hold hk => ?_)
        have h6 : σ 6 = .pointer (some ⟨(B + 2), 0, none⟩) := hold 6 (by kernel_rfl)
        exact ⟨rfl, .pointer (some ⟨(B + 2), 2, none⟩), by go_simp, rfl⟩
      · refine factg_of (fact_pure Ext.refl fun σ w hE hold hk => ?_)
        have h26 : σ 26 = .pointer (some ⟨(B + 2), 2, none⟩) := hk.1
        have hcl := (HH1.out.ext (Ext.of_drew hE)).cells.1.2.2.1
        exact ⟨rfl, .int .i64 z1, by go_simp, rfl⟩
      · refine factg_of fun σ w hE hold hk => ?_
        have h27 : σ 27 = .int .i64 z1 := hk.1
        refine ⟨rfl, Does.call (op_call2 rfl Try.func13 (by kernel_rfl) (by kernel_rfl) h27 (rfl)) (HWZ1.out w) ?_⟩
        rintro e w' ⟨rfl, rfl⟩
        exact ⟨_, rfl, Ext.refl _, rfl⟩
      · refine factg_of (fact_pure Ext.refl fun σ w hE hold hk => ?_)
        have h6 : σ 6 = .pointer (some ⟨(B + 2), 0, none⟩) := hold 6 (by kernel_rfl)
        exact ⟨rfl, .pointer (some ⟨(B + 2), 3, none⟩), by go_simp, rfl⟩
      · refine factg_of (fact_pure Ext.refl fun σ w hE hold hk => ?_)
        have h29 : σ 29 = .pointer (some ⟨(B + 2), 3, none⟩) := hk.1
        have hcl := (HH1.out.ext (Ext.of_drew hE)).cells.1.2.2.2
        exact ⟨rfl, .int .i64 u1, by go_simp, rfl⟩
      · refine factg_of fun σ w hE hold hk => ?_
        have h30 : σ 30 = .int .i64 u1 := hk.1
        refine ⟨rfl, Does.call (op_call2 rfl Try.func13 (by kernel_rfl) (by kernel_rfl) h30 (rfl)) (HWU1.out w) ?_⟩
        rintro e w' ⟨rfl, rfl⟩
        exact ⟨_, rfl, Ext.refl _, rfl⟩
      · refine factg_of (fact_pure Ext.refl fun σ w hE hold hk => ?_)
        have h22 : σ 22 = .int .i64 (1 + X1) := hk.1
        have h25 : σ 25 = .int .i64 Y1 := hk.2.1
        have h28 : σ 28 = .int .i64 Z1 := hk.2.2.1
        have h31 : σ 31 = .int .i64 U1 := hk.2.2.2.1
        exact ⟨rfl, _, op_build 30 _ rfl (headCells (1 + X1) Y1 Z1 U1) (by simp only [List.map_toArray, List.map_cons, List.map_nil]; show Try.prog.built _ [(0, σ 22), (1, σ 25), (2, σ 28), (3, σ 31)] = _; rw [h22, h25, h28, h31]; exact built_head _ _ _ _), rfl⟩
      · refine factg_of fun σ w hE hold hk => ?_
        exact ⟨rfl, Does.ok (op_alloc_head rfl) ⟨(Ext.refl w).alloc _, w.heap.size, rfl, (Ext.of_drew hE).size, HeadAt.new w 0 0 0 0⟩⟩
    case post =>
      intro σ w3 hE3 hL
      have h32 : σ 32 = headVal (1 + X1) Y1 Z1 U1 := hL.2.2.2.2.2.2.2.2.2.2.2.2.2.1
      have h11 : (fun v ww => ∃ b, v = .pointer (some ⟨b, 0, none⟩) ∧ w4.heap.size ≤ b ∧ HeadAt ww b 0 0 0 0) (σ 11) w3 := hL.2.2.2.2.2.2.2.2.2.2.2.2.2.2.1
      clear hL
      simp only [putAll, List.take_succ_cons, List.take_zero, List.drop_succ_cons, List.drop_zero, List.map_cons, List.map_nil, List.zip_cons_cons, List.zip_nil_right, List.foldl_cons, List.foldl_nil, Act.put, Option.getD_some, List.setIfInBounds_toArray, List.set_cons_zero, List.set_cons_succ]
      rw [h32]; clear h32
      obtain ⟨p1, e11, hp1, hP1⟩ := h11
      rw [e11]
      clear e11
      have ZP := Lib.hid hP1
      clear hP1
      have tok1 : True := trivial
      go_wp2_with refine wpList_store_row rfl 30 _ _ rfl p1 (headCells (1 + X1) Y1 Z1 U1) rfl rfl 30 (headCells 0 0 0 0) ZP.out (head_info ..) rfl (head_one ..) ?_
      obtain ⟨w5, hw5⟩ : ∃ w5, w3.setRow p1 (headCells (1 + X1) Y1 Z1 U1) = w5 := ⟨_, rfl⟩
      rw [hw5]
      have HP1 := Lib.hid (show HeadAt w5 p1 (1 + X1) Y1 Z1 U1 from hw5 ▸ row_at ZP.out)
      have hE45 : Ext w4 w5 := hw5 ▸ (Ext.of_drew hE3).row hp1 _
      have HH2 := Lib.hid (HH2.out.ext hE45)
      have HG1 := Lib.hid (HG1.out.ext hE45)
      have HG2 := Lib.hid (HG2.out.ext hE45)
      have hE := hE.trans hE45
      clear hE45 hw5 hE3 ZP hp1 HH1
      refine wp_region_lives_tail 15 mixed Ext [[0], [1], [2], [3], [4], [5], [6], [7], [8], [9], [10], [11], [12], [13], [14]]
          [.val _ (· = .pointer (some ⟨(B + 3), 0, none⟩)),
           .val _ (· = .int .i64 x2),
           .val _ (· = .int .i64 X2),
           .val _ (· = .int .i64 (1 + X2)),
           .val _ (· = .pointer (some ⟨(B + 3), 1, none⟩)),
           .val _ (· = .int .i64 y2),
           .val _ (· = .int .i64 Y2),
           .val _ (· = .pointer (some ⟨(B + 3), 2, none⟩)),
           .val _ (· = .int .i64 z2),
           .val _ (· = .int .i64 Z2),
           .val _ (· = .pointer (some ⟨(B + 3), 3, none⟩)),
           .val _ (· = .int .i64 u2),
           .val _ (· = .int .i64 U2),
           .val _ (· = headVal (1 + X2) Y2 Z2 U2),
           .one _ (fun v ww => ∃ b, v = .pointer (some ⟨b, 0, none⟩) ∧ w5.heap.size ≤ b ∧ HeadAt ww b 0 0 0 0) ((fun v w w' hE ⟨b, e, h1, h2⟩ => ⟨b, e, h1, h2.ext hE⟩))]
          Ext.refl (fun _ _ _ h k => h.trans k) (by kernel_rfl) rfl (by kernel_rfl) (by kernel_rfl) ?steps ?post
      case steps =>
        refine ⟨?_, ?_, ?_, ?_, ?_, ?_, ?_, ?_, ?_, ?_, ?_, ?_, ?_, ?_, ?_, trivial⟩
        · refine factg_of (fact_pure Ext.refl fun σ w hE hold hk => ?_)
          have h7 : σ 7 = .pointer (some ⟨(B + 3), 0, none⟩) := hold 7 (by kernel_rfl)
          exact ⟨rfl, .pointer (some ⟨(B + 3), 0, none⟩), by go_simp, rfl⟩
        · refine factg_of (fact_pure Ext.refl fun σ w hE hold hk => ?_)
          have h33 : σ 33 = .pointer (some ⟨(B + 3), 0, none⟩) := hk.1
          have hcl := (HH2.out.ext (Ext.of_drew hE)).cells.1.1
          exact ⟨rfl, .int .i64 x2, by go_simp, rfl⟩
        · refine factg_of fun σ w hE hold hk => ?_
          have h34 : σ 34 = .int .i64 x2 := hk.1
          refine ⟨rfl, Does.call (op_call2 rfl Try.func13 (by kernel_rfl) (by kernel_rfl) h34 (rfl)) (HWX2.out w) ?_⟩
          rintro e w' ⟨rfl, rfl⟩
          exact ⟨_, rfl, Ext.refl _, rfl⟩
        · refine factg_of (fact_pure Ext.refl fun σ w hE hold hk => ?_)
          have h35 : σ 35 = .int .i64 X2 := hk.1
          have hx := HFX2.out
          exact ⟨rfl, .int .i64 (1 + X2), by go_simp, rfl⟩
        · refine factg_of (fact_pure Ext.refl fun σ w hE hold hk => ?_)
          have h7 : σ 7 = .pointer (some ⟨(B + 3), 0, none⟩) := hold 7 (by kernel_rfl)
          exact ⟨rfl, .pointer (some ⟨(B + 3), 1, none⟩), by go_simp, rfl⟩
        · refine factg_of (fact_pure Ext.refl fun σ w hE hold hk => ?_)
          have h37 : σ 37 = .pointer (some ⟨(B + 3), 1, none⟩) := hk.1
          have hcl := (HH2.out.ext (Ext.of_drew hE)).cells.1.2.1
          exact ⟨rfl, .int .i64 y2, by go_simp, rfl⟩
        · refine factg_of fun σ w hE hold hk => ?_
          have h38 : σ 38 = .int .i64 y2 := hk.1
          refine ⟨rfl, Does.call (op_call2 rfl Try.func13 (by kernel_rfl) (by kernel_rfl) h38 (rfl)) (HWY2.out w) ?_⟩
          rintro e w' ⟨rfl, rfl⟩
          exact ⟨_, rfl, Ext.refl _, rfl⟩
        · refine factg_of (fact_pure Ext.refl fun σ w hE hold hk => ?_)
          have h7 : σ 7 = .pointer (some ⟨(B + 3), 0, none⟩) := hold 7 (by kernel_rfl)
          exact ⟨rfl, .pointer (some ⟨(B + 3), 2, none⟩), by go_simp, rfl⟩
        · refine factg_of (fact_pure Ext.refl fun σ w hE hold hk => ?_)
          have h40 : σ 40 = .pointer (some ⟨(B + 3), 2, none⟩) := hk.1
          have hcl := (HH2.out.ext (Ext.of_drew hE)).cells.1.2.2.1
          exact ⟨rfl, .int .i64 z2, by go_simp, rfl⟩
        · refine factg_of fun σ w hE hold hk => ?_
          have h41 : σ 41 = .int .i64 z2 := hk.1
          refine ⟨rfl, Does.call (op_call2 rfl Try.func13 (by kernel_rfl) (by kernel_rfl) h41 (rfl)) (HWZ2.out w) ?_⟩
          rintro e w' ⟨rfl, rfl⟩
          exact ⟨_, rfl, Ext.refl _, rfl⟩
        · refine factg_of (fact_pure Ext.refl fun σ w hE hold hk => ?_)
          have h7 : σ 7 = .pointer (some ⟨(B + 3), 0, none⟩) := hold 7 (by kernel_rfl)
          exact ⟨rfl, .pointer (some ⟨(B + 3), 3, none⟩), by go_simp, rfl⟩
        · refine factg_of (fact_pure Ext.refl fun σ w hE hold hk => ?_)
          have h43 : σ 43 = .pointer (some ⟨(B + 3), 3, none⟩) := hk.1
          have hcl := (HH2.out.ext (Ext.of_drew hE)).cells.1.2.2.2
          exact ⟨rfl, .int .i64 u2, by go_simp, rfl⟩
        · refine factg_of fun σ w hE hold hk => ?_
          have h44 : σ 44 = .int .i64 u2 := hk.1
          refine ⟨rfl, Does.call (op_call2 rfl Try.func13 (by kernel_rfl) (by kernel_rfl) h44 (rfl)) (HWU2.out w) ?_⟩
          rintro e w' ⟨rfl, rfl⟩
          exact ⟨_, rfl, Ext.refl _, rfl⟩
        · refine factg_of (fact_pure Ext.refl fun σ w hE hold hk => ?_)
          have h36 : σ 36 = .int .i64 (1 + X2) := hk.1
          have h39 : σ 39 = .int .i64 Y2 := hk.2.1
          have h42 : σ 42 = .int .i64 Z2 := hk.2.2.1
          have h45 : σ 45 = .int .i64 U2 := hk.2.2.2.1
          exact ⟨rfl, _, op_build 30 _ rfl (headCells (1 + X2) Y2 Z2 U2) (by simp only [List.map_toArray, List.map_cons, List.map_nil]; show Try.prog.built _ [(0, σ 36), (1, σ 39), (2, σ 42), (3, σ 45)] = _; rw [h36, h39, h42, h45]; exact built_head _ _ _ _), rfl⟩
        · refine factg_of fun σ w hE hold hk => ?_
          exact ⟨rfl, Does.ok (op_alloc_head rfl) ⟨(Ext.refl w).alloc _, w.heap.size, rfl, (Ext.of_drew hE).size, HeadAt.new w 0 0 0 0⟩⟩
      case post =>
        intro σ w3 hE3 hL
        have h46 : σ 46 = headVal (1 + X2) Y2 Z2 U2 := hL.2.2.2.2.2.2.2.2.2.2.2.2.2.1
        have h12 : (fun v ww => ∃ b, v = .pointer (some ⟨b, 0, none⟩) ∧ w5.heap.size ≤ b ∧ HeadAt ww b 0 0 0 0) (σ 12) w3 := hL.2.2.2.2.2.2.2.2.2.2.2.2.2.2.1
        clear hL
        simp only [putAll, List.take_succ_cons, List.take_zero, List.drop_succ_cons, List.drop_zero, List.map_cons, List.map_nil, List.zip_cons_cons, List.zip_nil_right, List.foldl_cons, List.foldl_nil, Act.put, Option.getD_some, List.setIfInBounds_toArray, List.set_cons_zero, List.set_cons_succ]
        rw [h46]; clear h46
        obtain ⟨p2, e12, hp2, hP2⟩ := h12
        rw [e12]
        clear e12
        have ZP := Lib.hid hP2
        clear hP2
        go_wp2_with refine wpList_store_row rfl 30 _ _ rfl p2 (headCells (1 + X2) Y2 Z2 U2) rfl rfl 30 (headCells 0 0 0 0) ZP.out (head_info ..) rfl (head_one ..) ?_
        obtain ⟨w6, hw6⟩ : ∃ w6, w3.setRow p2 (headCells (1 + X2) Y2 Z2 U2) = w6 := ⟨_, rfl⟩
        rw [hw6]
        have HP2 := Lib.hid (show HeadAt w6 p2 (1 + X2) Y2 Z2 U2 from hw6 ▸ row_at ZP.out)
        have hE56 : Ext w5 w6 := hw6 ▸ (Ext.of_drew hE3).row hp2 _
        have HP1 := Lib.hid (HP1.out.ext hE56)
        have HG1 := Lib.hid (HG1.out.ext hE56)
        have HG2 := Lib.hid (HG2.out.ext hE56)
        have hE := hE.trans hE56
        clear hE56 hw6 hE3 ZP hp2 HH2
        have hsaid := said_bytes (1 + X1) Y1 Z1 U1 K1 L1 S1 D1 (1 + X2) Y2 Z2 U2 K2 L2 S2 D2 (by have := HRX1.out; omega) HRY1.out HRZ1.out HRU1.out (by have := HRX2.out; omega) HRY2.out HRZ2.out HRU2.out HDr1.out HDr2.out PG1.out PG2.out
        obtain ⟨BA, hBA⟩ : ∃ Q, entryBytes (1 + X1) Y1 Z1 U1 K1 L1 S1 D1 = Q := ⟨_, rfl⟩
        obtain ⟨BB, hBB⟩ : ∃ Q, entryBytes (1 + X2) Y2 Z2 U2 K2 L2 S2 D2 = Q := ⟨_, rfl⟩
        rw [hBA, hBB] at hsaid
        have HBA := Lib.hid hBA
        have HBB := Lib.hid hBB
        clear hBA hBB
        cases hsl : slotB K1 L1 S1 D1 K2 L2 S2 D2 with
        | true =>
          obtain ⟨HB, hHB⟩ : ∃ Q, headB (1 + X1) Y1 Z1 U1 (1 + X2) Y2 Z2 U2 = Q := ⟨_, rfl⟩
          rw [hsl, hHB, Bool.true_and] at hsaid
          have HSB := Lib.hid hsaid
          have HSL := Lib.hid hsl
          have HHB := Lib.hid hHB
          clear hsaid hsl hHB
          refine wp_region_lives_g mixed Ext [[0], [1], [2], [3], [4], [5], [6], [7], [8], [9], [10], [11], [12], [13], [14], [15], [16], [17], [18]]
              [.val _ (· = headVal (1 + X1) Y1 Z1 U1),
               .val _ (· = slotVal K1 L1 S1 D1),
               .one _ (fun v ww => Own ww w6.heap.size 5 .u8 v BA) ((fun v w w' hE h => ownsRow.ext h hE)),
               .val _ (· = .string (strOfNums BA)),
               .val _ (· = headVal (1 + X2) Y2 Z2 U2),
               .val _ (· = slotVal K2 L2 S2 D2),
               .one _ (fun v ww => Own ww w6.heap.size 5 .u8 v BB) ((fun v w w' hE h => ownsRow.ext h hE)),
               .val _ (· = .string (strOfNums BB)),
               .val _ (· = .bool HB),
               .val _ (· = slotVal K1 L1 S1 D1),
               .val _ (· = slotVal K2 L2 S2 D2),
               .val _ (· = .bool true),
               .val _ (· = .bool true),
               .val _ (· = headVal (1 + X1) Y1 Z1 U1),
               .val _ (· = headVal (1 + X2) Y2 Z2 U2),
               .val _ (· = .bool HB),
               .val _ (· = .bool HB),
               .val _ (· = .bool true),
               .val _ (· = .bool true)]
              Ext.refl (fun _ _ _ h k => h.trans k) (by kernel_rfl) (by kernel_rfl) ?steps ?post
          case steps =>
            refine ⟨?_, ?_, ?_, ?_, ?_, ?_, ?_, ?_, ?_, ?_, ?_, ?_, ?_, ?_, ?_, ?_, ?_, ?_, ?_, trivial⟩
            · refine factg_of (fact_pure Ext.refl fun σ w hE hold hk => ?_)
              have h11 : σ 11 = .pointer (some ⟨p1, 0, none⟩) := hold 11 (by kernel_rfl)
              exact ⟨rfl, _, op_load_head rfl h11 (HP1.out.ext (Ext.of_drew hE)), rfl⟩
            · refine factg_of (fact_pure Ext.refl fun σ w hE hold hk => ?_)
              have h9 : σ 9 = .pointer (some ⟨b9, 0, none⟩) := hold 9 (by kernel_rfl)
              exact ⟨rfl, _, op_load_slot rfl h9 (HG1.out.ext (Ext.of_drew hE)), rfl⟩
            · refine factg_of fun σ w hE hold hk => ?_
              have h47 : σ 47 = headVal (1 + X1) Y1 Z1 U1 := hk.1
              have h48 : σ 48 = slotVal K1 L1 S1 D1 := hk.2.1
              refine ⟨rfl, Does.call (op_call2 rfl Try.func17 (by kernel_rfl) (by kernel_rfl) h47 h48) (PBytes_calls (1 + X1) Y1 Z1 U1 K1 L1 S1 D1 w) ?_⟩
              rintro e w' ⟨v', rfl, hO', hE'⟩
              exact ⟨v', rfl, hE', ownsRow.base (HBA.out ▸ hO') (Ext.of_drew hE).size⟩
            · refine factg_of (fact_pure Ext.refl fun σ w hE hold hk => ?_)
              have h49 : (fun v ww => Own ww w6.heap.size 5 .u8 v BA) (σ 49) w := hk.1
              exact ⟨rfl, _, op_convert rfl (own_string Try.underlying26 Try.underlying5 Try.underlying9 h49), rfl⟩
            · refine factg_of (fact_pure Ext.refl fun σ w hE hold hk => ?_)
              have h12 : σ 12 = .pointer (some ⟨p2, 0, none⟩) := hold 12 (by kernel_rfl)
              exact ⟨rfl, _, op_load_head rfl h12 (HP2.out.ext (Ext.of_drew hE)), rfl⟩
            · refine factg_of (fact_pure Ext.refl fun σ w hE hold hk => ?_)
              have h10 : σ 10 = .pointer (some ⟨b10, 0, none⟩) := hold 10 (by kernel_rfl)
              exact ⟨rfl, _, op_load_slot rfl h10 (HG2.out.ext (Ext.of_drew hE)), rfl⟩
            · refine factg_of fun σ w hE hold hk => ?_
              have h51 : σ 51 = headVal (1 + X2) Y2 Z2 U2 := hk.1
              have h52 : σ 52 = slotVal K2 L2 S2 D2 := hk.2.1
              refine ⟨rfl, Does.call (op_call2 rfl Try.func17 (by kernel_rfl) (by kernel_rfl) h51 h52) (PBytes_calls (1 + X2) Y2 Z2 U2 K2 L2 S2 D2 w) ?_⟩
              rintro e w' ⟨v', rfl, hO', hE'⟩
              exact ⟨v', rfl, hE', ownsRow.base (HBB.out ▸ hO') (Ext.of_drew hE).size⟩
            · refine factg_of (fact_pure Ext.refl fun σ w hE hold hk => ?_)
              have h53 : (fun v ww => Own ww w6.heap.size 5 .u8 v BB) (σ 53) w := hk.1
              exact ⟨rfl, _, op_convert rfl (own_string Try.underlying26 Try.underlying5 Try.underlying9 h53), rfl⟩
            · refine factg_of (fact_pure Ext.refl fun σ w hE hold hk => ?_)
              have h50 : σ 50 = .string (strOfNums BA) := hk.1
              have h54 : σ 54 = .string (strOfNums BB) := hk.2.1
              exact ⟨rfl, _, op_binOp rfl (HSB.out ▸ eql_string Try.underlying9 h50 h54), rfl⟩
            · refine factg_of (fact_pure Ext.refl fun σ w hE hold hk => ?_)
              have h9 : σ 9 = .pointer (some ⟨b9, 0, none⟩) := hold 9 (by kernel_rfl)
              exact ⟨rfl, _, op_load_slot rfl h9 (HG1.out.ext (Ext.of_drew hE)), rfl⟩
            · refine factg_of (fact_pure Ext.refl fun σ w hE hold hk => ?_)
              have h10 : σ 10 = .pointer (some ⟨b10, 0, none⟩) := hold 10 (by kernel_rfl)
              exact ⟨rfl, _, op_load_slot rfl h10 (HG2.out.ext (Ext.of_drew hE)), rfl⟩
            · refine factg_of (fact_pure Ext.refl fun σ w hE hold hk => ?_)
              have h56 : σ 56 = slotVal K1 L1 S1 D1 := hk.1
              have h57 : σ 57 = slotVal K2 L2 S2 D2 := hk.2.1
              exact ⟨rfl, _, HSL.out ▸ op_eql_slot rfl h56 h57, rfl⟩
            · refine factg_of (fact_pure Ext.refl fun σ w hE hold hk => ?_)
              have h58 : σ 58 = .bool true := hk.1
              exact ⟨rfl, _, op_move rfl, h58⟩
            · refine factg_of (fact_pure Ext.refl fun σ w hE hold hk => ?_)
              have h59 : σ 59 = .bool true := hk.1
              have h11 : σ 11 = .pointer (some ⟨p1, 0, none⟩) := hold 11 (by kernel_rfl)
              exact ⟨(by show (asB (σ 59) == some true) = true; rw [h59]; rfl), _, op_load_head rfl h11 (HP1.out.ext (Ext.of_drew hE)), rfl⟩
            · refine factg_of (fact_pure Ext.refl fun σ w hE hold hk => ?_)
              have h59 : σ 59 = .bool true := hk.1
              have h12 : σ 12 = .pointer (some ⟨p2, 0, none⟩) := hold 12 (by kernel_rfl)
              exact ⟨(by show (asB (σ 59) == some true) = true; rw [h59]; rfl), _, op_load_head rfl h12 (HP2.out.ext (Ext.of_drew hE)), rfl⟩
            · refine factg_of (fact_pure Ext.refl fun σ w hE hold hk => ?_)
              have h60 : σ 60 = headVal (1 + X1) Y1 Z1 U1 := hk.1
              have h61 : σ 61 = headVal (1 + X2) Y2 Z2 U2 := hk.2.1
              have h59 : σ 59 = .bool true := hk.2.2.1
              exact ⟨(by show (asB (σ 59) == some true) = true; rw [h59]; rfl), _, HHB.out ▸ op_eql_head rfl h60 h61, rfl⟩
            · refine factg_of (fact_pure Ext.refl fun σ w hE hold hk => ?_)
              have h59 : σ 59 = .bool true := hk.1
              have h62 : σ 62 = .bool HB := hk.2.1
              exact ⟨rfl, .bool HB, by go_simp, rfl⟩
            · refine factg_of (fact_pure Ext.refl fun σ w hE hold hk => ?_)
              have h55 : σ 55 = .bool HB := hk.1
              have h63 : σ 63 = .bool HB := hk.2.1
              exact ⟨rfl, .bool true, by go_simp, rfl⟩
            · refine factg_of (fact_pure Ext.refl fun σ w hE hold hk => ?_)
              have h64 : σ 64 = .bool true := hk.1
              exact ⟨rfl, _, op_assign rfl, h64⟩
          case post =>
            intro σ w3 hE3 hL
            have h8 : σ 8 = .bool true := hL.2.2.2.2.2.2.2.2.2.2.2.2.2.2.2.2.2.2.1
            clear hL
            simp only [putAll, List.map_cons, List.map_nil, List.zip_cons_cons, List.zip_nil_right, List.foldl_cons, List.foldl_nil, Act.put, Option.getD_some, List.setIfInBounds_toArray, List.set_cons_zero, List.set_cons_succ]
            rw [h8]; clear h8
            go_wp2_with fail
            go_ret
            exact ⟨rfl, hE.trans (Ext.of_drew hE3)⟩
        | false =>
          rw [hsl, Bool.false_and] at hsaid
          have HSB := Lib.hid hsaid
          have HSL := Lib.hid hsl
          clear hsaid hsl
          refine wp_region_lives_g mixed Ext [[0], [1], [2], [3], [4], [5], [6], [7], [8], [9], [10], [11], [12], [13], [14], [15], [16], [17], [18]]
              [.val _ (· = headVal (1 + X1) Y1 Z1 U1),
               .val _ (· = slotVal K1 L1 S1 D1),
               .one _ (fun v ww => Own ww w6.heap.size 5 .u8 v BA) ((fun v w w' hE h => ownsRow.ext h hE)),
               .val _ (· = .string (strOfNums BA)),
               .val _ (· = headVal (1 + X2) Y2 Z2 U2),
               .val _ (· = slotVal K2 L2 S2 D2),
               .one _ (fun v ww => Own ww w6.heap.size 5 .u8 v BB) ((fun v w w' hE h => ownsRow.ext h hE)),
               .val _ (· = .string (strOfNums BB)),
               .val _ (· = .bool false),
               .val _ (· = slotVal K1 L1 S1 D1),
               .val _ (· = slotVal K2 L2 S2 D2),
               .val _ (· = .bool false),
               .val _ (· = .bool false),
               .val _ (· = undef),
               .val _ (· = undef),
               .val _ (· = undef),
               .val _ (· = .bool false),
               .val _ (· = .bool true),
               .val _ (· = .bool true)]
              Ext.refl (fun _ _ _ h k => h.trans k) (by kernel_rfl) (by kernel_rfl) ?steps ?post
          case steps =>
            refine ⟨?_, ?_, ?_, ?_, ?_, ?_, ?_, ?_, ?_, ?_, ?_, ?_, ?_, ?_, ?_, ?_, ?_, ?_, ?_, trivial⟩
            · refine factg_of (fact_pure Ext.refl fun σ w hE hold hk => ?_)
              have h11 : σ 11 = .pointer (some ⟨p1, 0, none⟩) := hold 11 (by kernel_rfl)
              exact ⟨rfl, _, op_load_head rfl h11 (HP1.out.ext (Ext.of_drew hE)), rfl⟩
            · refine factg_of (fact_pure Ext.refl fun σ w hE hold hk => ?_)
              have h9 : σ 9 = .pointer (some ⟨b9, 0, none⟩) := hold 9 (by kernel_rfl)
              exact ⟨rfl, _, op_load_slot rfl h9 (HG1.out.ext (Ext.of_drew hE)), rfl⟩
            · refine factg_of fun σ w hE hold hk => ?_
              have h47 : σ 47 = headVal (1 + X1) Y1 Z1 U1 := hk.1
              have h48 : σ 48 = slotVal K1 L1 S1 D1 := hk.2.1
              refine ⟨rfl, Does.call (op_call2 rfl Try.func17 (by kernel_rfl) (by kernel_rfl) h47 h48) (PBytes_calls (1 + X1) Y1 Z1 U1 K1 L1 S1 D1 w) ?_⟩
              rintro e w' ⟨v', rfl, hO', hE'⟩
              exact ⟨v', rfl, hE', ownsRow.base (HBA.out ▸ hO') (Ext.of_drew hE).size⟩
            · refine factg_of (fact_pure Ext.refl fun σ w hE hold hk => ?_)
              have h49 : (fun v ww => Own ww w6.heap.size 5 .u8 v BA) (σ 49) w := hk.1
              exact ⟨rfl, _, op_convert rfl (own_string Try.underlying26 Try.underlying5 Try.underlying9 h49), rfl⟩
            · refine factg_of (fact_pure Ext.refl fun σ w hE hold hk => ?_)
              have h12 : σ 12 = .pointer (some ⟨p2, 0, none⟩) := hold 12 (by kernel_rfl)
              exact ⟨rfl, _, op_load_head rfl h12 (HP2.out.ext (Ext.of_drew hE)), rfl⟩
            · refine factg_of (fact_pure Ext.refl fun σ w hE hold hk => ?_)
              have h10 : σ 10 = .pointer (some ⟨b10, 0, none⟩) := hold 10 (by kernel_rfl)
              exact ⟨rfl, _, op_load_slot rfl h10 (HG2.out.ext (Ext.of_drew hE)), rfl⟩
            · refine factg_of fun σ w hE hold hk => ?_
              have h51 : σ 51 = headVal (1 + X2) Y2 Z2 U2 := hk.1
              have h52 : σ 52 = slotVal K2 L2 S2 D2 := hk.2.1
              refine ⟨rfl, Does.call (op_call2 rfl Try.func17 (by kernel_rfl) (by kernel_rfl) h51 h52) (PBytes_calls (1 + X2) Y2 Z2 U2 K2 L2 S2 D2 w) ?_⟩
              rintro e w' ⟨v', rfl, hO', hE'⟩
              exact ⟨v', rfl, hE', ownsRow.base (HBB.out ▸ hO') (Ext.of_drew hE).size⟩
            · refine factg_of (fact_pure Ext.refl fun σ w hE hold hk => ?_)
              have h53 : (fun v ww => Own ww w6.heap.size 5 .u8 v BB) (σ 53) w := hk.1
              exact ⟨rfl, _, op_convert rfl (own_string Try.underlying26 Try.underlying5 Try.underlying9 h53), rfl⟩
            · refine factg_of (fact_pure Ext.refl fun σ w hE hold hk => ?_)
              have h50 : σ 50 = .string (strOfNums BA) := hk.1
              have h54 : σ 54 = .string (strOfNums BB) := hk.2.1
              exact ⟨rfl, _, op_binOp rfl (HSB.out ▸ eql_string Try.underlying9 h50 h54), rfl⟩
            · refine factg_of (fact_pure Ext.refl fun σ w hE hold hk => ?_)
              have h9 : σ 9 = .pointer (some ⟨b9, 0, none⟩) := hold 9 (by kernel_rfl)
              exact ⟨rfl, _, op_load_slot rfl h9 (HG1.out.ext (Ext.of_drew hE)), rfl⟩
            · refine factg_of (fact_pure Ext.refl fun σ w hE hold hk => ?_)
              have h10 : σ 10 = .pointer (some ⟨b10, 0, none⟩) := hold 10 (by kernel_rfl)
              exact ⟨rfl, _, op_load_slot rfl h10 (HG2.out.ext (Ext.of_drew hE)), rfl⟩
            · refine factg_of (fact_pure Ext.refl fun σ w hE hold hk => ?_)
              have h56 : σ 56 = slotVal K1 L1 S1 D1 := hk.1
              have h57 : σ 57 = slotVal K2 L2 S2 D2 := hk.2.1
              exact ⟨rfl, _, HSL.out ▸ op_eql_slot rfl h56 h57, rfl⟩
            · refine factg_of (fact_pure Ext.refl fun σ w hE hold hk => ?_)
              have h58 : σ 58 = .bool false := hk.1
              exact ⟨rfl, _, op_move rfl, h58⟩
            · refine factg_skip fun σ w hE hold hk => ?_
              have h59 : σ 59 = .bool false := hk.1
              exact ⟨by show (asB (σ 59) == some true) = false; rw [h59]; rfl, rfl⟩
            · refine factg_skip fun σ w hE hold hk => ?_
              have h59 : σ 59 = .bool false := hk.1
              exact ⟨by show (asB (σ 59) == some true) = false; rw [h59]; rfl, rfl⟩
            · refine factg_skip fun σ w hE hold hk => ?_
              have h59 : σ 59 = .bool false := hk.2.2.1
              exact ⟨by show (asB (σ 59) == some true) = false; rw [h59]; rfl, rfl⟩
            · refine factg_of (fact_pure Ext.refl fun σ w hE hold hk => ?_)
              have h59 : σ 59 = .bool false := hk.1
              have h62 : σ 62 = undef := hk.2.1
              exact ⟨rfl, .bool false, by go_simp, rfl⟩
            · refine factg_of (fact_pure Ext.refl fun σ w hE hold hk => ?_)
              have h55 : σ 55 = .bool false := hk.1
              have h63 : σ 63 = .bool false := hk.2.1
              exact ⟨rfl, .bool true, by go_simp, rfl⟩
            · refine factg_of (fact_pure Ext.refl fun σ w hE hold hk => ?_)
              have h64 : σ 64 = .bool true := hk.1
              exact ⟨rfl, _, op_assign rfl, h64⟩
          case post =>
            intro σ w3 hE3 hL
            have h8 : σ 8 = .bool true := hL.2.2.2.2.2.2.2.2.2.2.2.2.2.2.2.2.2.2.1
            clear hL
            simp only [putAll, List.map_cons, List.map_nil, List.zip_cons_cons, List.zip_nil_right, List.foldl_cons, List.foldl_nil, Act.put, Option.getD_some, List.setIfInBounds_toArray, List.set_cons_zero, List.set_cons_succ]
            rw [h8]; clear h8
            go_wp2_with fail
            go_ret
            exact ⟨rfl, hE.trans (Ext.of_drew hE3)⟩
end Go.Proofs.Ytmbjebdkhcpclaa
