/-
  The walk of the law EntryPlaces. Printed by mk_EntryPlaces.py.
-/
import Derived.Test.YtmbjebdkhcpclaaEntryUnlike
set_option linter.unusedSimpArgs false
set_option linter.unusedVariables false
namespace Go.Proofs.Ytmbjebdkhcpclaa
open Go.RowKit
attribute [local go_sem] slotEval

theorem rd_mid {w : World} {k : IntKind} {b n c p m : Nat} {xs A B C : List Int} (h : Rd w k (.slice (some ⟨b, 0, none⟩) n c) xs) (hx : xs = A ++ (B ++ C)) (hp : A.length = p) (hm : B.length = m) : Rd w k (.slice (some ⟨b, p, none⟩) m (c - p)) B := by
  subst hx hp hm
  have := rd_left (rd_right h)
  rwa [Nat.zero_add] at this
theorem rd_front {w : World} {k : IntKind} {b n c m : Nat} {xs B C : List Int} (h : Rd w k (.slice (some ⟨b, 0, none⟩) n c) xs) (hx : xs = B ++ C) (hm : B.length = m) : Rd w k (.slice (some ⟨b, 0, none⟩) m c) B := by
  subst hx hm
  exact rd_left h
theorem getD_mid {xs A C : List Int} {q : Int} {p : Nat} (hx : xs = A ++ (q :: C)) (hp : A.length = p) : xs.getD p 0 = q := by
  subst hx hp
  simp [List.getD_eq_getElem?_getD]

set_option maxHeartbeats 8000000 in
set_option maxRecDepth 100000 in
theorem EntryPlaces_walk (k l s : Int) (d : Nat → Int) (x y z u : Int) (w00 : World) (hk : (Lit.int .i64 k).wf = true) (hl : (Lit.int .i64 l).wf = true) (hs : (Lit.int .i64 s).wf = true) (hd : ∀ j, j < 16 → 0 ≤ d j ∧ d j < 256)
    (hx : (Lit.int .i64 x).wf = true) (hy : (Lit.int .u8 y).wf = true) (hz : (Lit.int .u8 z).wf = true) (hu : (Lit.int .u8 u).wf = true) :
    Calls Try.prog 8 #[slotVal k l s d, .int .i64 x, .int .u8 y, .int .u8 z, .int .u8 u] w00 fun e w' => e = .returned (.bool true) ∧ Ext w00 w' := by
  have Hd := Lib.hid hd
  have Hk := Lib.hid (bounds_i64 hk)
  have Hl := Lib.hid (bounds_i64 hl)
  have Hs := Lib.hid (bounds_i64 hs)
  have Hy := Lib.hid (bounds_u8 hy)
  have Hz := Lib.hid (bounds_u8 hz)
  have Hu := Lib.hid (bounds_u8 hu)
  clear hk hl hs hx hy hz hu hd
  have HWy := Lib.hid (show IntKind.i64.wrap y = y by have := Hy.out; rw [IntKind.wrap_i64]; omega)
  have HWz := Lib.hid (show IntKind.i64.wrap z = z by have := Hz.out; rw [IntKind.wrap_i64]; omega)
  have HWu := Lib.hid (show IntKind.i64.wrap u = u by have := Hu.out; rw [IntKind.wrap_i64]; omega)
  obtain ⟨K, hK⟩ : ∃ Q, k % 4 = Q := ⟨_, rfl⟩
  obtain ⟨L, hL⟩ : ∃ Q, goodL k l = Q := ⟨_, rfl⟩
  obtain ⟨SS, hS⟩ : ∃ Q, goodS k s = Q := ⟨_, rfl⟩
  obtain ⟨D, hD⟩ : ∃ Q, goodD k d = Q := ⟨_, rfl⟩
  have GC := Lib.hid (show ∀ w, Calls Try.prog 12 #[slotVal k l s d] w fun e w' => e = .returned (slotVal K L SS D) ∧ Ext w w' from fun w => by
    have h := Good_calls k l s d w Hk.out Hl.out Hs.out
    rw [hK, hL, hS, hD] at h
    exact h)
  have HRK := Lib.hid (show 0 ≤ K ∧ K < 4 by omega)
  have HWK := Lib.hid (show IntKind.i64.wrap K = K by have := HRK.out; rw [IntKind.wrap_i64]; omega)
  have HDr := Lib.hid (hD ▸ goodD_range k d Hd.out)
  clear hK hL hS hD
  go_enter Try.func8, Try.ntmps8
  go_wp2_with fail
  obtain ⟨B, hB⟩ : ∃ B, w00.heap.size = B := ⟨_, rfl⟩
  obtain ⟨wA, hwA⟩ : ∃ wA, w00.alloc (.cells (slotCells k l s d) 24) = wA := ⟨_, rfl⟩
  have HS := Lib.hid (show SlotAt wA B k l s d by rw [← hwA, ← hB]; exact SlotAt.new w00 k l s d)
  have hE0 : Ext w00 wA := hwA ▸ (Ext.refl w00).alloc _
  rw [hwA, hB]
  clear hwA hB
  refine (known10_calls wA).mono ?_
  rintro e w1 ⟨rfl, hE1⟩
  have HS := Lib.hid (HS.out.ext hE1)
  have hE := hE0.trans hE1
  clear hE0 hE1
  have tok : True := trivial
  go_wp2_with (have _t := tok; clear _t; refine wpList_load_row rfl 24 _ rfl B rfl 24 (slotCells k l s d) (0, 0) _ HS.out Try.underlying24 rfl (slot_info ..) ?_; clear tok)
  refine (GC.out w1).mono ?_
  rintro e w2 ⟨rfl, hE2⟩
  have hE := hE.trans hE2
  clear hE2 HS
  obtain ⟨b1, hb1⟩ : ∃ b1, w2.heap.size = b1 := ⟨_, rfl⟩
  have Zg := Lib.hid (show SlotAt (w2.alloc (.cells (slotCells 0 0 0 (fun _ => 0)) 24)) b1 0 0 0 (fun _ => 0) by rw [← hb1]; exact SlotAt.new w2 0 0 0 (fun _ => 0))
  have Hb1 := Lib.hid hb1
  clear hb1
  have hy2 := HWy.out
  have hz2 := HWz.out
  have hu2 := HWu.out
  have tok : True := trivial
  have tok2 : True := trivial
  go_wp2_with (first | (have _t := tok; clear _t; (try rw [Hb1.out]); refine wpList_store_row rfl 24 _ _ rfl b1 (slotCells K L SS D) rfl rfl 24 (slotCells 0 0 0 (fun _ => 0)) Zg.out (slot_info ..) rfl (slot_one ..) ?_; clear tok) | (have _t := tok2; clear _t; refine wpList_load_row rfl 24 _ rfl b1 rfl 24 (slotCells K L SS D) (0, 0) _ (row_at Zg.out) Try.underlying24 rfl (slot_info ..) ?_; clear tok2))
  obtain ⟨w3, hw3⟩ : ∃ w3, (w2.alloc (.cells (slotCells 0 0 0 (fun _ => 0)) 24)).setRow b1 (slotCells K L SS D) = w3 := ⟨_, rfl⟩
  rw [hw3]
  have hE23 : Ext w2 w3 := hw3 ▸ ((Ext.refl w2).alloc _).row (Nat.le_of_eq Hb1.out) _
  have HGs := Lib.hid (show SlotAt w3 b1 K L SS D from hw3 ▸ row_at Zg.out)
  have hE := hE.trans hE23
  clear hE23 hw3 Hb1 Zg hy2 hz2 hu2
  refine (PBytes_calls x y z u K L SS D w3).mono ?_
  rintro e w8 ⟨v5, rfl, hO5, hE5⟩
  have hlen := entryBytes_length x y z u K L SS D
  obtain ⟨g, c, rfl, hc1, hc2, _, _⟩ := Own.pos hO5 (by rw [hlen]; decide)
  rw [hlen] at hO5 hc1 ⊢
  have HR := Lib.hid (show Rd w8 .u8 (.slice (some ⟨g, 0, none⟩) 48 c) (entryBytes x y z u K L SS D) from ownsRow.reads hO5)
  have HGs := Lib.hid (HGs.out.ext hE5)
  have hE := hE.trans hE5
  clear hE5 hO5 hlen
  unfold maxLen at hc2
  have R0 := Lib.hid (rd_front (B := leBytes 8 x) (m := 8) HR.out (C := leBytes 1 y ++ (leBytes 1 z ++ (leBytes 1 u ++ (leBytes 1 K ++ (leBytes 8 L ++ (leBytes 8 SS ++ (dataList D ++ List.replicate 4 0))))))) (by simp only [entryBytes, frontBytes, List.append_assoc]) (leBytes_length _ _))
  have R12 := Lib.hid (rd_mid (A := leBytes 8 x ++ leBytes 1 y ++ leBytes 1 z ++ leBytes 1 u ++ leBytes 1 K) (B := leBytes 8 L) (p := 12) (m := 8) HR.out (C := leBytes 8 SS ++ (dataList D ++ List.replicate 4 0)) (by simp only [entryBytes, frontBytes, List.append_assoc]) (by simp [leBytes_length]) (leBytes_length _ _))
  have R20 := Lib.hid (rd_mid (A := leBytes 8 x ++ leBytes 1 y ++ leBytes 1 z ++ leBytes 1 u ++ leBytes 1 K ++ leBytes 8 L) (B := leBytes 8 SS) (p := 20) (m := 8) HR.out (C := dataList D ++ List.replicate 4 0) (by simp only [entryBytes, frontBytes, List.append_assoc]) (by simp [leBytes_length]) (leBytes_length _ _))
  have R28 := Lib.hid (rd_mid (A := frontBytes x y z u K L SS) (B := dataList D) (p := 28) (m := 16) HR.out (C := List.replicate 4 0) (by simp only [entryBytes, List.append_assoc]) (frontBytes_length ..) rfl)
  have R44 := Lib.hid (rd_mid (A := frontBytes x y z u K L SS ++ dataList D) (B := List.replicate 4 0) (p := 44) (m := 4) HR.out (C := []) (by simp only [entryBytes, List.append_assoc, List.append_nil]) (by rw [List.length_append, frontBytes_length]; rfl) rfl)
  have RD := Lib.hid (HGs.out.rd)
  have HC8 := Lib.hid (show w8.cell? ⟨g, 8, none⟩ = some (.int .u8 y) by
    have h := Rd.at HR.out 8 (by rw [entryBytes_length]; decide)
    rw [Nat.zero_add, getD_mid (A := leBytes 8 x) (q := y % 256) (C := leBytes 1 z ++ (leBytes 1 u ++ (leBytes 1 K ++ (leBytes 8 L ++ (leBytes 8 SS ++ (dataList D ++ List.replicate 4 0)))))) (by simp only [entryBytes, frontBytes, List.append_assoc, leBytes_one, List.cons_append, List.nil_append]) (leBytes_length _ _), show y % 256 = y by have := Hy.out; omega] at h
    exact h)
  have HC9 := Lib.hid (show w8.cell? ⟨g, 9, none⟩ = some (.int .u8 z) by
    have h := Rd.at HR.out 9 (by rw [entryBytes_length]; decide)
    rw [Nat.zero_add, getD_mid (A := leBytes 8 x ++ leBytes 1 y) (q := z % 256) (C := leBytes 1 u ++ (leBytes 1 K ++ (leBytes 8 L ++ (leBytes 8 SS ++ (dataList D ++ List.replicate 4 0))))) (by simp only [entryBytes, frontBytes, List.append_assoc, leBytes_one, List.cons_append, List.nil_append]) (by simp [leBytes_length]), show z % 256 = z by have := Hz.out; omega] at h
    exact h)
  have HC10 := Lib.hid (show w8.cell? ⟨g, 10, none⟩ = some (.int .u8 u) by
    have h := Rd.at HR.out 10 (by rw [entryBytes_length]; decide)
    rw [Nat.zero_add, getD_mid (A := leBytes 8 x ++ leBytes 1 y ++ leBytes 1 z) (q := u % 256) (C := leBytes 1 K ++ (leBytes 8 L ++ (leBytes 8 SS ++ (dataList D ++ List.replicate 4 0)))) (by simp only [entryBytes, frontBytes, List.append_assoc, leBytes_one, List.cons_append, List.nil_append]) (by simp [leBytes_length]), show u % 256 = u by have := Hu.out; omega] at h
    exact h)
  have HC11 := Lib.hid (show w8.cell? ⟨g, 11, none⟩ = some (.int .u8 K) by
    have h := Rd.at HR.out 11 (by rw [entryBytes_length]; decide)
    rw [Nat.zero_add, getD_mid (A := leBytes 8 x ++ leBytes 1 y ++ leBytes 1 z ++ leBytes 1 u) (q := K % 256) (C := leBytes 8 L ++ (leBytes 8 SS ++ (dataList D ++ List.replicate 4 0))) (by simp only [entryBytes, frontBytes, List.append_assoc, leBytes_one, List.cons_append, List.nil_append]) (by simp [leBytes_length]), show K % 256 = K by have := HRK.out; omega] at h
    exact h)
  go_wp2_with fail
  refine wp_region_lives_g mixed Ext [[0], [1], [2], [3], [4], [5], [6], [7], [8], [9], [10], [11], [12], [13], [14], [15], [16], [17], [18], [19], [20], [21], [22], [23], [24], [25], [26], [27], [28], [29], [30], [31], [32], [33], [34], [35], [36], [37], [38], [39], [40], [41], [42], [43], [44], [45], [46], [47], [48], [49], [50], [51], [52], [53], [54], [55], [56], [57], [58], [59], [60], [61], [62], [63], [64], [65], [66], [67], [68], [69], [70], [71], [72], [73], [74]]
      [.val _ (· = .slice (some ⟨g, 0, none⟩) 48 c),
       .val _ (· = .slice (some ⟨g, 0, none⟩) 8 c),
       .val _ (· = .string (strOfNums (leBytes 8 x))),
       .val _ (· = .int .i64 x),
       .one _ (fun v ww => Own ww w8.heap.size 5 .u8 v (leBytes 8 x)) ((fun v w w' hE h => ownsRow.ext h hE)),
       .val _ (· = .string (strOfNums (leBytes 8 x))),
       .val _ (· = .bool true),
       .val _ (· = .bool true),
       .val _ (· = .slice (some ⟨g, 0, none⟩) 48 c),
       .val _ (· = .pointer (some ⟨g, 8, none⟩)),
       .val _ (· = .int .u8 y),
       .val _ (· = .int .u8 y),
       .val _ (· = .bool true),
       .val _ (· = .bool true),
       .val _ (· = .bool true),
       .val _ (· = .slice (some ⟨g, 0, none⟩) 48 c),
       .val _ (· = .pointer (some ⟨g, 9, none⟩)),
       .val _ (· = .int .u8 z),
       .val _ (· = .int .u8 z),
       .val _ (· = .bool true),
       .val _ (· = .bool true),
       .val _ (· = .bool true),
       .val _ (· = .slice (some ⟨g, 0, none⟩) 48 c),
       .val _ (· = .pointer (some ⟨g, 10, none⟩)),
       .val _ (· = .int .u8 u),
       .val _ (· = .int .u8 u),
       .val _ (· = .bool true),
       .val _ (· = .bool true),
       .val _ (· = .bool true),
       .val _ (· = .slice (some ⟨g, 0, none⟩) 48 c),
       .val _ (· = .pointer (some ⟨g, 11, none⟩)),
       .val _ (· = .int .u8 K),
       .val _ (· = .int .i64 K),
       .val _ (· = .pointer (some ⟨b1, 0, none⟩)),
       .val _ (· = .int .i64 K),
       .val _ (· = .bool true),
       .val _ (· = .bool true),
       .val _ (· = .bool true),
       .val _ (· = .slice (some ⟨g, 0, none⟩) 48 c),
       .val _ (· = .slice (some ⟨g, 12, none⟩) 8 (c - 12)),
       .val _ (· = .string (strOfNums (leBytes 8 L))),
       .val _ (· = .pointer (some ⟨b1, 1, none⟩)),
       .val _ (· = .int .i64 L),
       .one _ (fun v ww => Own ww w8.heap.size 5 .u8 v (leBytes 8 L)) ((fun v w w' hE h => ownsRow.ext h hE)),
       .val _ (· = .string (strOfNums (leBytes 8 L))),
       .val _ (· = .bool true),
       .val _ (· = .bool true),
       .val _ (· = .bool true),
       .val _ (· = .slice (some ⟨g, 0, none⟩) 48 c),
       .val _ (· = .slice (some ⟨g, 20, none⟩) 8 (c - 20)),
       .val _ (· = .string (strOfNums (leBytes 8 SS))),
       .val _ (· = .pointer (some ⟨b1, 2, none⟩)),
       .val _ (· = .int .i64 SS),
       .one _ (fun v ww => Own ww w8.heap.size 5 .u8 v (leBytes 8 SS)) ((fun v w w' hE h => ownsRow.ext h hE)),
       .val _ (· = .string (strOfNums (leBytes 8 SS))),
       .val _ (· = .bool true),
       .val _ (· = .bool true),
       .val _ (· = .bool true),
       .val _ (· = .slice (some ⟨g, 0, none⟩) 48 c),
       .val _ (· = .slice (some ⟨g, 28, none⟩) 16 (c - 28)),
       .val _ (· = .string (strOfNums (dataList D))),
       .val _ (· = .pointer (some ⟨b1, 3, none⟩)),
       .val _ (· = .slice (some ⟨b1, 3, none⟩) 16 16),
       .val _ (· = .string (strOfNums (dataList D))),
       .val _ (· = .bool true),
       .val _ (· = .bool true),
       .val _ (· = .bool true),
       .val _ (· = .slice (some ⟨g, 0, none⟩) 48 c),
       .val _ (· = .slice (some ⟨g, 44, none⟩) 4 (c - 44)),
       .val _ (· = .string (strOfNums (List.replicate 4 0))),
       .one _ (fun v ww => Own ww w8.heap.size 5 .u8 v (List.replicate 4 0)) ((fun v w w' hE h => ownsRow.ext h hE)),
       .val _ (· = .string (strOfNums (List.replicate 4 0))),
       .val _ (· = .bool true),
       .val _ (· = .bool true),
       .val _ (· = .bool true)]
      Ext.refl (fun _ _ _ h k => h.trans k) (by kernel_rfl) (by kernel_rfl) ?steps ?post
  case steps =>
    refine ⟨?_, ?_, ?_, ?_, ?_, ?_, ?_, ?_, ?_, ?_, ?_, ?_, ?_, ?_, ?_, ?_, ?_, ?_, ?_, ?_, ?_, ?_, ?_, ?_, ?_, ?_, ?_, ?_, ?_, ?_, ?_, ?_, ?_, ?_, ?_, ?_, ?_, ?_, ?_, ?_, ?_, ?_, ?_, ?_, ?_, ?_, ?_, ?_, ?_, ?_, ?_, ?_, ?_, ?_, ?_, ?_, ?_, ?_, ?_, ?_, ?_, ?_, ?_, ?_, ?_, ?_, ?_, ?_, ?_, ?_, ?_, ?_, ?_, ?_, ?_, trivial⟩
    · refine factg_of (fact_pure Ext.refl fun σ w hE hold hk => ?_)
      have h12 : σ 12 = .slice (some ⟨g, 0, none⟩) 48 c := hold 12 (by kernel_rfl)
      exact ⟨rfl, _, op_move rfl, h12⟩
    · refine factg_of (fact_pure Ext.refl fun σ w hE hold hk => ?_)
      have h30 : σ 30 = .slice (some ⟨g, 0, none⟩) 48 c := hk.1
      have hq : ¬ (c : Int) < 8 := by omega
      exact ⟨rfl, .slice (some ⟨g, 0, none⟩) 8 c, by go_simp, rfl⟩
    · refine factg_of (fact_pure Ext.refl fun σ w hE hold hk => ?_)
      have h31 : σ 31 = .slice (some ⟨g, 0, none⟩) 8 c := hk.1
      exact ⟨rfl, _, op_convert rfl (by show (convert _ _ (σ 31)).run _ _ = _; rw [h31]; exact rd_string Try.underlying26 Try.underlying5 Try.underlying9 (RdC.ext R0.out (Ext.of_drew hE))), rfl⟩
    · refine factg_of (fact_pure Ext.refl fun σ w hE hold hk => ?_)
      have h1 : σ 1 = .int .i64 x := hold 1 (by kernel_rfl)
      exact ⟨rfl, _, op_move rfl, h1⟩
    · refine factg_of fun σ w hE hold hk => ?_
      have h33 : σ 33 = .int .i64 x := hk.1
      refine ⟨rfl, Does.call (op_call2 rfl Try.func19 (by kernel_rfl) (by kernel_rfl) (rfl) h33) (refInt_calls (.slice none 0 0) [] x w w.heap.size (Nat.le_refl _) (by simp) (own_nil ..)) ?_⟩
      rintro e w' ⟨v', rfl, hO', hG⟩
      exact ⟨v', rfl, hG.below (Nat.le_refl _) (fun q hq => by cases hq), ownsRow.base hO' (Ext.of_drew hE).size⟩
    · refine factg_of (fact_pure Ext.refl fun σ w hE hold hk => ?_)
      have h34 : (fun v ww => Own ww w8.heap.size 5 .u8 v (leBytes 8 x)) (σ 34) w := hk.1
      exact ⟨rfl, _, op_convert rfl (own_string Try.underlying26 Try.underlying5 Try.underlying9 h34), rfl⟩
    · refine factg_of (fact_pure Ext.refl fun σ w hE hold hk => ?_)
      have h32 : σ 32 = .string (strOfNums (leBytes 8 x)) := hk.1
      have h35 : σ 35 = .string (strOfNums (leBytes 8 x)) := hk.2.1
      exact ⟨rfl, _, op_eql_text rfl Try.underlying9 h32 h35, rfl⟩
    · refine factg_of (fact_pure Ext.refl fun σ w hE hold hk => ?_)
      have h36 : σ 36 = .bool true := hk.1
      exact ⟨rfl, _, op_move rfl, h36⟩
    · refine factg_of (fact_pure Ext.refl fun σ w hE hold hk => ?_)
      have h37 : σ 37 = .bool true := hk.1
      have h12 : σ 12 = .slice (some ⟨g, 0, none⟩) 48 c := hold 12 (by kernel_rfl)
      exact ⟨(by show (asB (σ 37) == some true) = true; rw [h37]; rfl), _, op_move rfl, h12⟩
    · refine factg_of (fact_pure Ext.refl fun σ w hE hold hk => ?_)
      have h38 : σ 38 = .slice (some ⟨g, 0, none⟩) 48 c := hk.1
      have h37 : σ 37 = .bool true := hk.2.1
      exact ⟨(by show (asB (σ 37) == some true) = true; rw [h37]; rfl), .pointer (some ⟨g, 8, none⟩), by go_simp, rfl⟩
    · refine factg_of (fact_pure Ext.refl fun σ w hE hold hk => ?_)
      have h39 : σ 39 = .pointer (some ⟨g, 8, none⟩) := hk.1
      have h37 : σ 37 = .bool true := hk.2.1
      have hcl := (Ext.of_drew hE).cell HC8.out
      exact ⟨(by show (asB (σ 37) == some true) = true; rw [h37]; rfl), .int .u8 y, by go_simp, rfl⟩
    · refine factg_of (fact_pure Ext.refl fun σ w hE hold hk => ?_)
      have h37 : σ 37 = .bool true := hk.1
      have h2 : σ 2 = .int .u8 y := hold 2 (by kernel_rfl)
      exact ⟨(by show (asB (σ 37) == some true) = true; rw [h37]; rfl), _, op_move rfl, h2⟩
    · refine factg_of (fact_pure Ext.refl fun σ w hE hold hk => ?_)
      have h40 : σ 40 = .int .u8 y := hk.1
      have h41 : σ 41 = .int .u8 y := hk.2.1
      have h37 : σ 37 = .bool true := hk.2.2.1
      exact ⟨(by show (asB (σ 37) == some true) = true; rw [h37]; rfl), .bool true, by go_simp, rfl⟩
    · refine factg_of (fact_pure Ext.refl fun σ w hE hold hk => ?_)
      have h37 : σ 37 = .bool true := hk.1
      have h42 : σ 42 = .bool true := hk.2.1
      exact ⟨rfl, .bool true, by go_simp, rfl⟩
    · refine factg_of (fact_pure Ext.refl fun σ w hE hold hk => ?_)
      have h43 : σ 43 = .bool true := hk.1
      exact ⟨rfl, _, op_move rfl, h43⟩
    · refine factg_of (fact_pure Ext.refl fun σ w hE hold hk => ?_)
      have h44 : σ 44 = .bool true := hk.1
      have h12 : σ 12 = .slice (some ⟨g, 0, none⟩) 48 c := hold 12 (by kernel_rfl)
      exact ⟨(by show (asB (σ 44) == some true) = true; rw [h44]; rfl), _, op_move rfl, h12⟩
    · refine factg_of (fact_pure Ext.refl fun σ w hE hold hk => ?_)
      have h45 : σ 45 = .slice (some ⟨g, 0, none⟩) 48 c := hk.1
      have h44 : σ 44 = .bool true := hk.2.1
      exact ⟨(by show (asB (σ 44) == some true) = true; rw [h44]; rfl), .pointer (some ⟨g, 9, none⟩), by go_simp, rfl⟩
    · refine factg_of (fact_pure Ext.refl fun σ w hE hold hk => ?_)
      have h46 : σ 46 = .pointer (some ⟨g, 9, none⟩) := hk.1
      have h44 : σ 44 = .bool true := hk.2.1
      have hcl := (Ext.of_drew hE).cell HC9.out
      exact ⟨(by show (asB (σ 44) == some true) = true; rw [h44]; rfl), .int .u8 z, by go_simp, rfl⟩
    · refine factg_of (fact_pure Ext.refl fun σ w hE hold hk => ?_)
      have h44 : σ 44 = .bool true := hk.1
      have h3 : σ 3 = .int .u8 z := hold 3 (by kernel_rfl)
      exact ⟨(by show (asB (σ 44) == some true) = true; rw [h44]; rfl), _, op_move rfl, h3⟩
    · refine factg_of (fact_pure Ext.refl fun σ w hE hold hk => ?_)
      have h47 : σ 47 = .int .u8 z := hk.1
      have h48 : σ 48 = .int .u8 z := hk.2.1
      have h44 : σ 44 = .bool true := hk.2.2.1
      exact ⟨(by show (asB (σ 44) == some true) = true; rw [h44]; rfl), .bool true, by go_simp, rfl⟩
    · refine factg_of (fact_pure Ext.refl fun σ w hE hold hk => ?_)
      have h44 : σ 44 = .bool true := hk.1
      have h49 : σ 49 = .bool true := hk.2.1
      exact ⟨rfl, .bool true, by go_simp, rfl⟩
    · refine factg_of (fact_pure Ext.refl fun σ w hE hold hk => ?_)
      have h50 : σ 50 = .bool true := hk.1
      exact ⟨rfl, _, op_move rfl, h50⟩
    · refine factg_of (fact_pure Ext.refl fun σ w hE hold hk => ?_)
      have h51 : σ 51 = .bool true := hk.1
      have h12 : σ 12 = .slice (some ⟨g, 0, none⟩) 48 c := hold 12 (by kernel_rfl)
      exact ⟨(by show (asB (σ 51) == some true) = true; rw [h51]; rfl), _, op_move rfl, h12⟩
    · refine factg_of (fact_pure Ext.refl fun σ w hE hold hk => ?_)
      have h52 : σ 52 = .slice (some ⟨g, 0, none⟩) 48 c := hk.1
      have h51 : σ 51 = .bool true := hk.2.1
      exact ⟨(by show (asB (σ 51) == some true) = true; rw [h51]; rfl), .pointer (some ⟨g, 10, none⟩), by go_simp, rfl⟩
    · refine factg_of (fact_pure Ext.refl fun σ w hE hold hk => ?_)
      have h53 : σ 53 = .pointer (some ⟨g, 10, none⟩) := hk.1
      have h51 : σ 51 = .bool true := hk.2.1
      have hcl := (Ext.of_drew hE).cell HC10.out
      exact ⟨(by show (asB (σ 51) == some true) = true; rw [h51]; rfl), .int .u8 u, by go_simp, rfl⟩
    · refine factg_of (fact_pure Ext.refl fun σ w hE hold hk => ?_)
      have h51 : σ 51 = .bool true := hk.1
      have h4 : σ 4 = .int .u8 u := hold 4 (by kernel_rfl)
      exact ⟨(by show (asB (σ 51) == some true) = true; rw [h51]; rfl), _, op_move rfl, h4⟩
    · refine factg_of (fact_pure Ext.refl fun σ w hE hold hk => ?_)
      have h54 : σ 54 = .int .u8 u := hk.1
      have h55 : σ 55 = .int .u8 u := hk.2.1
      have h51 : σ 51 = .bool true := hk.2.2.1
      exact ⟨(by show (asB (σ 51) == some true) = true; rw [h51]; rfl), .bool true, by go_simp, rfl⟩
    · refine factg_of (fact_pure Ext.refl fun σ w hE hold hk => ?_)
      have h51 : σ 51 = .bool true := hk.1
      have h56 : σ 56 = .bool true := hk.2.1
      exact ⟨rfl, .bool true, by go_simp, rfl⟩
    · refine factg_of (fact_pure Ext.refl fun σ w hE hold hk => ?_)
      have h57 : σ 57 = .bool true := hk.1
      exact ⟨rfl, _, op_move rfl, h57⟩
    · refine factg_of (fact_pure Ext.refl fun σ w hE hold hk => ?_)
      have h58 : σ 58 = .bool true := hk.1
      have h12 : σ 12 = .slice (some ⟨g, 0, none⟩) 48 c := hold 12 (by kernel_rfl)
      exact ⟨(by show (asB (σ 58) == some true) = true; rw [h58]; rfl), _, op_move rfl, h12⟩
    · refine factg_of (fact_pure Ext.refl fun σ w hE hold hk => ?_)
      have h59 : σ 59 = .slice (some ⟨g, 0, none⟩) 48 c := hk.1
      have h58 : σ 58 = .bool true := hk.2.1
      exact ⟨(by show (asB (σ 58) == some true) = true; rw [h58]; rfl), .pointer (some ⟨g, 11, none⟩), by go_simp, rfl⟩
    · refine factg_of (fact_pure Ext.refl fun σ w hE hold hk => ?_)
      have h60 : σ 60 = .pointer (some ⟨g, 11, none⟩) := hk.1
      have h58 : σ 58 = .bool true := hk.2.1
      have hcl := (Ext.of_drew hE).cell HC11.out
      exact ⟨(by show (asB (σ 58) == some true) = true; rw [h58]; rfl), .int .u8 K, by go_simp, rfl⟩
    · refine factg_of (fact_pure Ext.refl fun σ w hE hold hk => ?_)
      have h61 : σ 61 = .int .u8 K := hk.1
      have h58 : σ 58 = .bool true := hk.2.1
      have hq := HWK.out
      exact ⟨(by show (asB (σ 58) == some true) = true; rw [h58]; rfl), .int .i64 K, by go_simp, rfl⟩
    · refine factg_of (fact_pure Ext.refl fun σ w hE hold hk => ?_)
      have h58 : σ 58 = .bool true := hk.1
      have h11 : σ 11 = .pointer (some ⟨b1, 0, none⟩) := hold 11 (by kernel_rfl)
      exact ⟨(by show (asB (σ 58) == some true) = true; rw [h58]; rfl), .pointer (some ⟨b1, 0, none⟩), by go_simp, rfl⟩
    · refine factg_of (fact_pure Ext.refl fun σ w hE hold hk => ?_)
      have h63 : σ 63 = .pointer (some ⟨b1, 0, none⟩) := hk.1
      have h58 : σ 58 = .bool true := hk.2.1
      have hcl := (HGs.out.ext (Ext.of_drew hE)).heads.1.1
      exact ⟨(by show (asB (σ 58) == some true) = true; rw [h58]; rfl), .int .i64 K, by go_simp, rfl⟩
    · refine factg_of (fact_pure Ext.refl fun σ w hE hold hk => ?_)
      have h62 : σ 62 = .int .i64 K := hk.1
      have h64 : σ 64 = .int .i64 K := hk.2.1
      have h58 : σ 58 = .bool true := hk.2.2.1
      exact ⟨(by show (asB (σ 58) == some true) = true; rw [h58]; rfl), .bool true, by go_simp, rfl⟩
    · refine factg_of (fact_pure Ext.refl fun σ w hE hold hk => ?_)
      have h58 : σ 58 = .bool true := hk.1
      have h65 : σ 65 = .bool true := hk.2.1
      exact ⟨rfl, .bool true, by go_simp, rfl⟩
    · refine factg_of (fact_pure Ext.refl fun σ w hE hold hk => ?_)
      have h66 : σ 66 = .bool true := hk.1
      exact ⟨rfl, _, op_move rfl, h66⟩
    · refine factg_of (fact_pure Ext.refl fun σ w hE hold hk => ?_)
      have h67 : σ 67 = .bool true := hk.1
      have h12 : σ 12 = .slice (some ⟨g, 0, none⟩) 48 c := hold 12 (by kernel_rfl)
      exact ⟨(by show (asB (σ 67) == some true) = true; rw [h67]; rfl), _, op_move rfl, h12⟩
    · refine factg_of (fact_pure Ext.refl fun σ w hE hold hk => ?_)
      have h68 : σ 68 = .slice (some ⟨g, 0, none⟩) 48 c := hk.1
      have h67 : σ 67 = .bool true := hk.2.1
      have hq : ¬ (c : Int) < 20 := by omega
      have hq2 : ¬ c = 12 := by omega
      exact ⟨(by show (asB (σ 67) == some true) = true; rw [h67]; rfl), .slice (some ⟨g, 12, none⟩) 8 (c - 12), by go_simp, rfl⟩
    · refine factg_of (fact_pure Ext.refl fun σ w hE hold hk => ?_)
      have h69 : σ 69 = .slice (some ⟨g, 12, none⟩) 8 (c - 12) := hk.1
      have h67 : σ 67 = .bool true := hk.2.1
      exact ⟨(by show (asB (σ 67) == some true) = true; rw [h67]; rfl), _, op_convert rfl (by show (convert _ _ (σ 69)).run _ _ = _; rw [h69]; exact rd_string Try.underlying26 Try.underlying5 Try.underlying9 (RdC.ext R12.out (Ext.of_drew hE))), rfl⟩
    · refine factg_of (fact_pure Ext.refl fun σ w hE hold hk => ?_)
      have h67 : σ 67 = .bool true := hk.1
      have h11 : σ 11 = .pointer (some ⟨b1, 0, none⟩) := hold 11 (by kernel_rfl)
      exact ⟨(by show (asB (σ 67) == some true) = true; rw [h67]; rfl), .pointer (some ⟨b1, 1, none⟩), by go_simp, rfl⟩
    · refine factg_of (fact_pure Ext.refl fun σ w hE hold hk => ?_)
      have h71 : σ 71 = .pointer (some ⟨b1, 1, none⟩) := hk.1
      have h67 : σ 67 = .bool true := hk.2.1
      have hcl := (HGs.out.ext (Ext.of_drew hE)).heads.1.2.1
      exact ⟨(by show (asB (σ 67) == some true) = true; rw [h67]; rfl), .int .i64 L, by go_simp, rfl⟩
    · refine factg_of fun σ w hE hold hk => ?_
      have h72 : σ 72 = .int .i64 L := hk.1
      have h67 : σ 67 = .bool true := hk.2.1
      refine ⟨(by show (asB (σ 67) == some true) = true; rw [h67]; rfl), Does.call (op_call2 rfl Try.func19 (by kernel_rfl) (by kernel_rfl) (rfl) h72) (refInt_calls (.slice none 0 0) [] L w w.heap.size (Nat.le_refl _) (by simp) (own_nil ..)) ?_⟩
      rintro e w' ⟨v', rfl, hO', hG⟩
      exact ⟨v', rfl, hG.below (Nat.le_refl _) (fun q hq => by cases hq), ownsRow.base hO' (Ext.of_drew hE).size⟩
    · refine factg_of (fact_pure Ext.refl fun σ w hE hold hk => ?_)
      have h73 : (fun v ww => Own ww w8.heap.size 5 .u8 v (leBytes 8 L)) (σ 73) w := hk.1
      have h67 : σ 67 = .bool true := hk.2.1
      exact ⟨(by show (asB (σ 67) == some true) = true; rw [h67]; rfl), _, op_convert rfl (own_string Try.underlying26 Try.underlying5 Try.underlying9 h73), rfl⟩
    · refine factg_of (fact_pure Ext.refl fun σ w hE hold hk => ?_)
      have h70 : σ 70 = .string (strOfNums (leBytes 8 L)) := hk.1
      have h74 : σ 74 = .string (strOfNums (leBytes 8 L)) := hk.2.1
      have h67 : σ 67 = .bool true := hk.2.2.1
      exact ⟨(by show (asB (σ 67) == some true) = true; rw [h67]; rfl), _, op_eql_text rfl Try.underlying9 h70 h74, rfl⟩
    · refine factg_of (fact_pure Ext.refl fun σ w hE hold hk => ?_)
      have h67 : σ 67 = .bool true := hk.1
      have h75 : σ 75 = .bool true := hk.2.1
      exact ⟨rfl, .bool true, by go_simp, rfl⟩
    · refine factg_of (fact_pure Ext.refl fun σ w hE hold hk => ?_)
      have h76 : σ 76 = .bool true := hk.1
      exact ⟨rfl, _, op_move rfl, h76⟩
    · refine factg_of (fact_pure Ext.refl fun σ w hE hold hk => ?_)
      have h77 : σ 77 = .bool true := hk.1
      have h12 : σ 12 = .slice (some ⟨g, 0, none⟩) 48 c := hold 12 (by kernel_rfl)
      exact ⟨(by show (asB (σ 77) == some true) = true; rw [h77]; rfl), _, op_move rfl, h12⟩
    · refine factg_of (fact_pure Ext.refl fun σ w hE hold hk => ?_)
      have h78 : σ 78 = .slice (some ⟨g, 0, none⟩) 48 c := hk.1
      have h77 : σ 77 = .bool true := hk.2.1
      have hq : ¬ (c : Int) < 28 := by omega
      have hq2 : ¬ c = 20 := by omega
      exact ⟨(by show (asB (σ 77) == some true) = true; rw [h77]; rfl), .slice (some ⟨g, 20, none⟩) 8 (c - 20), by go_simp, rfl⟩
    · refine factg_of (fact_pure Ext.refl fun σ w hE hold hk => ?_)
      have h79 : σ 79 = .slice (some ⟨g, 20, none⟩) 8 (c - 20) := hk.1
      have h77 : σ 77 = .bool true := hk.2.1
      exact ⟨(by show (asB (σ 77) == some true) = true; rw [h77]; rfl), _, op_convert rfl (by show (convert _ _ (σ 79)).run _ _ = _; rw [h79]; exact rd_string Try.underlying26 Try.underlying5 Try.underlying9 (RdC.ext R20.out (Ext.of_drew hE))), rfl⟩
    · refine factg_of (fact_pure Ext.refl fun σ w hE hold hk => ?_)
      have h77 : σ 77 = .bool true := hk.1
      have h11 : σ 11 = .pointer (some ⟨b1, 0, none⟩) := hold 11 (by kernel_rfl)
      exact ⟨(by show (asB (σ 77) == some true) = true; rw [h77]; rfl), .pointer (some ⟨b1, 2, none⟩), by go_simp, rfl⟩
    · refine factg_of (fact_pure Ext.refl fun σ w hE hold hk => ?_)
      have h81 : σ 81 = .pointer (some ⟨b1, 2, none⟩) := hk.1
      have h77 : σ 77 = .bool true := hk.2.1
      have hcl := (HGs.out.ext (Ext.of_drew hE)).heads.1.2.2
      exact ⟨(by show (asB (σ 77) == some true) = true; rw [h77]; rfl), .int .i64 SS, by go_simp, rfl⟩
    · refine factg_of fun σ w hE hold hk => ?_
      have h82 : σ 82 = .int .i64 SS := hk.1
      have h77 : σ 77 = .bool true := hk.2.1
      refine ⟨(by show (asB (σ 77) == some true) = true; rw [h77]; rfl), Does.call (op_call2 rfl Try.func19 (by kernel_rfl) (by kernel_rfl) (rfl) h82) (refInt_calls (.slice none 0 0) [] SS w w.heap.size (Nat.le_refl _) (by simp) (own_nil ..)) ?_⟩
      rintro e w' ⟨v', rfl, hO', hG⟩
      exact ⟨v', rfl, hG.below (Nat.le_refl _) (fun q hq => by cases hq), ownsRow.base hO' (Ext.of_drew hE).size⟩
    · refine factg_of (fact_pure Ext.refl fun σ w hE hold hk => ?_)
      have h83 : (fun v ww => Own ww w8.heap.size 5 .u8 v (leBytes 8 SS)) (σ 83) w := hk.1
      have h77 : σ 77 = .bool true := hk.2.1
      exact ⟨(by show (asB (σ 77) == some true) = true; rw [h77]; rfl), _, op_convert rfl (own_string Try.underlying26 Try.underlying5 Try.underlying9 h83), rfl⟩
    · refine factg_of (fact_pure Ext.refl fun σ w hE hold hk => ?_)
      have h80 : σ 80 = .string (strOfNums (leBytes 8 SS)) := hk.1
      have h84 : σ 84 = .string (strOfNums (leBytes 8 SS)) := hk.2.1
      have h77 : σ 77 = .bool true := hk.2.2.1
      exact ⟨(by show (asB (σ 77) == some true) = true; rw [h77]; rfl), _, op_eql_text rfl Try.underlying9 h80 h84, rfl⟩
    · refine factg_of (fact_pure Ext.refl fun σ w hE hold hk => ?_)
      have h77 : σ 77 = .bool true := hk.1
      have h85 : σ 85 = .bool true := hk.2.1
      exact ⟨rfl, .bool true, by go_simp, rfl⟩
    · refine factg_of (fact_pure Ext.refl fun σ w hE hold hk => ?_)
      have h86 : σ 86 = .bool true := hk.1
      exact ⟨rfl, _, op_move rfl, h86⟩
    · refine factg_of (fact_pure Ext.refl fun σ w hE hold hk => ?_)
      have h87 : σ 87 = .bool true := hk.1
      have h12 : σ 12 = .slice (some ⟨g, 0, none⟩) 48 c := hold 12 (by kernel_rfl)
      exact ⟨(by show (asB (σ 87) == some true) = true; rw [h87]; rfl), _, op_move rfl, h12⟩
    · refine factg_of (fact_pure Ext.refl fun σ w hE hold hk => ?_)
      have h88 : σ 88 = .slice (some ⟨g, 0, none⟩) 48 c := hk.1
      have h87 : σ 87 = .bool true := hk.2.1
      have hq : ¬ (c : Int) < 44 := by omega
      have hq2 : ¬ c = 28 := by omega
      exact ⟨(by show (asB (σ 87) == some true) = true; rw [h87]; rfl), .slice (some ⟨g, 28, none⟩) 16 (c - 28), by go_simp, rfl⟩
    · refine factg_of (fact_pure Ext.refl fun σ w hE hold hk => ?_)
      have h89 : σ 89 = .slice (some ⟨g, 28, none⟩) 16 (c - 28) := hk.1
      have h87 : σ 87 = .bool true := hk.2.1
      exact ⟨(by show (asB (σ 87) == some true) = true; rw [h87]; rfl), _, op_convert rfl (by show (convert _ _ (σ 89)).run _ _ = _; rw [h89]; exact rd_string Try.underlying26 Try.underlying5 Try.underlying9 (RdC.ext R28.out (Ext.of_drew hE))), rfl⟩
    · refine factg_of (fact_pure Ext.refl fun σ w hE hold hk => ?_)
      have h87 : σ 87 = .bool true := hk.1
      have h11 : σ 11 = .pointer (some ⟨b1, 0, none⟩) := hold 11 (by kernel_rfl)
      exact ⟨(by show (asB (σ 87) == some true) = true; rw [h87]; rfl), .pointer (some ⟨b1, 3, none⟩), by go_simp, rfl⟩
    · refine factg_of (fact_pure Ext.refl fun σ w hE hold hk => ?_)
      have h91 : σ 91 = .pointer (some ⟨b1, 3, none⟩) := hk.1
      have h87 : σ 87 = .bool true := hk.2.1
      exact ⟨(by show (asB (σ 87) == some true) = true; rw [h87]; rfl), .slice (some ⟨b1, 3, none⟩) 16 16, by go_simp, rfl⟩
    · refine factg_of (fact_pure Ext.refl fun σ w hE hold hk => ?_)
      have h92 : σ 92 = .slice (some ⟨b1, 3, none⟩) 16 16 := hk.1
      have h87 : σ 87 = .bool true := hk.2.1
      exact ⟨(by show (asB (σ 87) == some true) = true; rw [h87]; rfl), _, op_convert rfl (by show (convert _ _ (σ 92)).run _ _ = _; rw [h92]; exact rd_string Try.underlying26 Try.underlying5 Try.underlying9 (RdC.ext RD.out (Ext.of_drew hE))), rfl⟩
    · refine factg_of (fact_pure Ext.refl fun σ w hE hold hk => ?_)
      have h90 : σ 90 = .string (strOfNums (dataList D)) := hk.1
      have h93 : σ 93 = .string (strOfNums (dataList D)) := hk.2.1
      have h87 : σ 87 = .bool true := hk.2.2.1
      exact ⟨(by show (asB (σ 87) == some true) = true; rw [h87]; rfl), _, op_eql_text rfl Try.underlying9 h90 h93, rfl⟩
    · refine factg_of (fact_pure Ext.refl fun σ w hE hold hk => ?_)
      have h87 : σ 87 = .bool true := hk.1
      have h94 : σ 94 = .bool true := hk.2.1
      exact ⟨rfl, .bool true, by go_simp, rfl⟩
    · refine factg_of (fact_pure Ext.refl fun σ w hE hold hk => ?_)
      have h95 : σ 95 = .bool true := hk.1
      exact ⟨rfl, _, op_move rfl, h95⟩
    · refine factg_of (fact_pure Ext.refl fun σ w hE hold hk => ?_)
      have h96 : σ 96 = .bool true := hk.1
      have h12 : σ 12 = .slice (some ⟨g, 0, none⟩) 48 c := hold 12 (by kernel_rfl)
      exact ⟨(by show (asB (σ 96) == some true) = true; rw [h96]; rfl), _, op_move rfl, h12⟩
    · refine factg_of (fact_pure Ext.refl fun σ w hE hold hk => ?_)
      have h97 : σ 97 = .slice (some ⟨g, 0, none⟩) 48 c := hk.1
      have h96 : σ 96 = .bool true := hk.2.1
      have hq : ¬ (c : Int) < 48 := by omega
      have hq2 : ¬ c = 44 := by omega
      exact ⟨(by show (asB (σ 96) == some true) = true; rw [h96]; rfl), .slice (some ⟨g, 44, none⟩) 4 (c - 44), by go_simp, rfl⟩
    · refine factg_of (fact_pure Ext.refl fun σ w hE hold hk => ?_)
      have h98 : σ 98 = .slice (some ⟨g, 44, none⟩) 4 (c - 44) := hk.1
      have h96 : σ 96 = .bool true := hk.2.1
      exact ⟨(by show (asB (σ 96) == some true) = true; rw [h96]; rfl), _, op_convert rfl (by show (convert _ _ (σ 98)).run _ _ = _; rw [h98]; exact rd_string Try.underlying26 Try.underlying5 Try.underlying9 (RdC.ext R44.out (Ext.of_drew hE))), rfl⟩
    · refine factg_of fun σ w hE hold hk => ?_
      have h96 : σ 96 = .bool true := hk.1
      obtain ⟨w', hrun, hO', hE'⟩ := run_make_nums (P := Try.prog) (w := w) 26 5 .u8 1 Try.underlying26 infoU8 .i64 .i64 4 (by decide) (by decide)
      exact ⟨(by show (asB (σ 96) == some true) = true; rw [h96]; rfl), Does.ok (op_make rfl rfl rfl hrun) ⟨hE', ownsRow.base hO' (Ext.of_drew hE).size⟩⟩
    · refine factg_of (fact_pure Ext.refl fun σ w hE hold hk => ?_)
      have h100 : (fun v ww => Own ww w8.heap.size 5 .u8 v (List.replicate 4 0)) (σ 100) w := hk.1
      have h96 : σ 96 = .bool true := hk.2.1
      exact ⟨(by show (asB (σ 96) == some true) = true; rw [h96]; rfl), _, op_convert rfl (own_string Try.underlying26 Try.underlying5 Try.underlying9 h100), rfl⟩
    · refine factg_of (fact_pure Ext.refl fun σ w hE hold hk => ?_)
      have h99 : σ 99 = .string (strOfNums (List.replicate 4 0)) := hk.1
      have h101 : σ 101 = .string (strOfNums (List.replicate 4 0)) := hk.2.1
      have h96 : σ 96 = .bool true := hk.2.2.1
      exact ⟨(by show (asB (σ 96) == some true) = true; rw [h96]; rfl), _, op_eql_text rfl Try.underlying9 h99 h101, rfl⟩
    · refine factg_of (fact_pure Ext.refl fun σ w hE hold hk => ?_)
      have h96 : σ 96 = .bool true := hk.1
      have h102 : σ 102 = .bool true := hk.2.1
      exact ⟨rfl, .bool true, by go_simp, rfl⟩
    · refine factg_of (fact_pure Ext.refl fun σ w hE hold hk => ?_)
      have h103 : σ 103 = .bool true := hk.1
      exact ⟨rfl, _, op_assign rfl, h103⟩
  case post =>
    intro σ w3 hE3 hL
    have h10 : σ 10 = .bool true := hL.2.2.2.2.2.2.2.2.2.2.2.2.2.2.2.2.2.2.2.2.2.2.2.2.2.2.2.2.2.2.2.2.2.2.2.2.2.2.2.2.2.2.2.2.2.2.2.2.2.2.2.2.2.2.2.2.2.2.2.2.2.2.2.2.2.2.2.2.2.2.2.2.2.2.1
    clear hL
    simp only [putAll, List.append_eq, List.cons_append, List.nil_append, List.map_cons, List.map_nil, List.zip_cons_cons, List.zip_nil_right, List.foldl_cons, List.foldl_nil, Act.put, Option.getD_some, List.setIfInBounds_toArray, List.set_cons_zero, List.set_cons_succ]
    rw [h10]; clear h10
    go_wp2_with fail
    go_ret
    exact ⟨rfl, hE.trans (Ext.of_drew hE3)⟩
end Go.Proofs.Ytmbjebdkhcpclaa
