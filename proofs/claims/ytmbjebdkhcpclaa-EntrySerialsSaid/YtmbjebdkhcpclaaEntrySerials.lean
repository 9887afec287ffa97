/-
  The walk of the law EntrySerials. Printed by mk_EntrySerials.py.
-/
import Derived.Test.YtmbjebdkhcpclaaEntryCuts
set_option linter.unusedSimpArgs false
set_option linter.unusedVariables false
namespace Go.Proofs.Ytmbjebdkhcpclaa
open Go.RowKit

/-- The number that is tried. -/
def serialAt (M : Nat) (q : Nat) : Int := [0, -1 - (M : Int), 1099511627777 + (M : Int), 9223372036854775807, 1099511627776, 1].getD q 0
theorem serialAt_range (M q : Nat) (hM : M < 1000) (hq : q < 6) : -9223372036854775808 ≤ serialAt M q ∧ serialAt M q ≤ 9223372036854775807 := by
  rcases (show q = 0 ∨ q = 1 ∨ q = 2 ∨ q = 3 ∨ q = 4 ∨ q = 5 by omega) with rfl | rfl | rfl | rfl | rfl | rfl <;> simp [serialAt] <;> omega
theorem serialAt_fits (M q : Nat) (hM : M < 1000) (hq : q < 6) : (1 ≤ serialAt M q ∧ serialAt M q ≤ 1099511627776) ↔ 4 ≤ q := by
  rcases (show q = 0 ∨ q = 1 ∨ q = 2 ∨ q = 3 ∨ q = 4 ∨ q = 5 by omega) with rfl | rfl | rfl | rfl | rfl | rfl <;> simp [serialAt] <;> omega
/-- What the two readings say. -/
theorem serial_said (M q : Nat) (hM : M < 1000) (hq : q < 6) (k l s : Int) (d : Nat → Int) :
    (parseF (entryBytes (serialAt M q) 0 0 0 (k % 4) (goodL k l) (goodS k s) (goodD k d)) = 0 ∧ 4 ≤ q) ∨ (parseF (entryBytes (serialAt M q) 0 0 0 (k % 4) (goodL k l) (goodS k s) (goodD k d)) = 5 ∧ q < 4) := by
  rw [entryZ_zeros, parseF_z _ _ _ _ _ _ _ _ _ rfl (serialAt_range M q hM hq) (goodL_i64 k l) (goodS_i64 k s), good_zBad]
  have h := serialAt_fits M q hM hq
  by_cases h4 : 4 ≤ q
  · rw [decide_eq_true (h.2 h4)]; exact .inl ⟨rfl, h4⟩
  · rw [decide_eq_false (fun x => h4 (h.1 x))]; exact .inr ⟨by simp, by omega⟩
theorem set_z (a b c e k l s : Int) (d : Nat → Int) (p : Nat) (v : Int) : (entryBytes a b c e k l s d).set (44 + p) v = entryZ a b c e k l s d ((List.replicate 4 0).set p v) := by
  unfold entryBytes entryZ
  rw [List.set_append_right _ _ (by rw [List.length_append, frontBytes_length]; show 28 + 16 ≤ _; omega)]
  rw [show 44 + p - (frontBytes a b c e k l s ++ dataList d).length = p by rw [List.length_append, frontBytes_length]; show 44 + p - (28 + 16) = p; omega]
theorem turned_said (p : Nat) (hp : p < 4) (v : Int) (k l s : Int) (d : Nat → Int) :
    parseF ((entryBytes 1 0 0 0 (k % 4) (goodL k l) (goodS k s) (goodD k d)).set (44 + p) v) = if v = 0 then 0 else 5 := by
  rw [set_z, parseF_z _ _ _ _ _ _ _ _ _ (by simp) (by decide) (goodL_i64 k l) (goodS_i64 k s), good_zBad]
  rcases (show p = 0 ∨ p = 1 ∨ p = 2 ∨ p = 3 by omega) with rfl | rfl | rfl | rfl <;> by_cases hv : v = 0 <;> simp [hv]

set_option maxHeartbeats 8000000 in
set_option maxRecDepth 100000 in
theorem EntrySerials_walk (k l s : Int) (d : Nat → Int) (which byv n : Int) (w : World) (hk : (Lit.int .i64 k).wf = true) (hl : (Lit.int .i64 l).wf = true) (hs : (Lit.int .i64 s).wf = true) (hd : ∀ j, j < 16 → 0 ≤ d j ∧ d j < 256) (hw : (Lit.int .i64 which).wf = true) (hb : (Lit.int .u8 byv).wf = true) (hn : (Lit.int .i64 n).wf = true) :
    Calls Try.prog 6 #[slotVal k l s d, .int .i64 which, .int .u8 byv, .int .i64 n] w fun e w' => e = .returned (.bool true) ∧ Ext w w' := by
  have Hk := Lib.hid (bounds_i64 hk)
  have Hl := Lib.hid (bounds_i64 hl)
  have Hs := Lib.hid (bounds_i64 hs)
  have Hn := Lib.hid (bounds_i64 hn)
  have Hw := Lib.hid (bounds_i64 hw)
  have Hb := Lib.hid (bounds_u8 hb)
  have Hd := Lib.hid hd
  clear hk hl hs hn hd hw hb
  obtain ⟨M, hM⟩ : ∃ M : Nat, n % 1000 = M := ⟨(n % 1000).toNat, by omega⟩
  have hM1 : M < 1000 := by omega
  have HM := Lib.hid hM
  obtain ⟨q, hq⟩ : ∃ q : Nat, which % 6 = q := ⟨(which % 6).toNat, by omega⟩
  have hq1 : q < 6 := by omega
  have HQ := Lib.hid hq
  obtain ⟨p, hp⟩ : ∃ p : Nat, which % 4 = p := ⟨(which % 4).toNat, by omega⟩
  have hp1 : p < 4 := by omega
  have HPp := Lib.hid hp
  clear hM hq hp
  go_enter Try.func6, Try.ntmps6
  go_wp2_with fail
  obtain ⟨B, hB⟩ : ∃ B, w.heap.size = B := ⟨_, rfl⟩
  obtain ⟨wA, hwA⟩ : ∃ wA, w.alloc (.cells (slotCells k l s d) 24) = wA := ⟨_, rfl⟩
  have HS := Lib.hid (show SlotAt wA B k l s d by rw [← hwA, ← hB]; exact SlotAt.new w k l s d)
  have hE0 : Ext w wA := hwA ▸ (Ext.refl w).alloc _
  rw [hwA, hB]
  clear hwA hB
  refine (known10_calls wA).mono ?_
  rintro e w1 ⟨rfl, hE1⟩
  have HS := Lib.hid (HS.out.ext hE1)
  have hE := hE0.trans hE1
  clear hE0 hE1
  have tok : True := trivial
  go_wp2_with (have _t := tok; clear _t; refine wpList_load_row rfl 24 _ rfl B rfl 24 (slotCells k l s d) (0, 0) _ HS.out Try.underlying24 rfl (slot_info ..) ?_; clear tok)
  refine (Good_calls k l s d w1 Hk.out Hl.out Hs.out).mono ?_
  rintro e w2 ⟨rfl, hE2⟩
  obtain ⟨K, hK⟩ : ∃ K, k % 4 = K := ⟨_, rfl⟩
  obtain ⟨L, hL⟩ : ∃ L, goodL k l = L := ⟨_, rfl⟩
  obtain ⟨S, hS⟩ : ∃ S, goodS k s = S := ⟨_, rfl⟩
  obtain ⟨D, hD⟩ : ∃ D, goodD k d = D := ⟨_, rfl⟩
  have hP1 := serial_said M q hM1 hq1 k l s d
  have hP2 := turned_said p hp1 byv k l s d
  have hDr := goodD_range k d Hd.out
  rw [hK, hL, hS, hD] at hP1 hP2
  rw [hD] at hDr
  have HP1 := Lib.hid hP1
  have HP2 := Lib.hid hP2
  have HDr := Lib.hid hDr
  rw [hK, hL, hS, hD]
  have hE := hE.trans hE2
  clear hE2 hK hL hS hD hP1 hP2 hDr HS
  obtain ⟨Bg, hBg⟩ : ∃ Bg, w2.heap.size = Bg := ⟨_, rfl⟩
  have Zg := Lib.hid (show SlotAt (w2.alloc (.cells (slotCells 0 0 0 (fun _ => 0)) 24)) Bg 0 0 0 (fun _ => 0) by rw [← hBg]; exact SlotAt.new w2 0 0 0 (fun _ => 0))
  have HBg := Lib.hid hBg
  clear hBg
  have tok : True := trivial
  go_wp2_with (have _t := tok; clear _t; (try rw [HBg.out]); refine wpList_store_row rfl 24 _ _ rfl Bg (slotCells K L S D) rfl rfl 24 (slotCells 0 0 0 (fun _ => 0)) Zg.out (slot_info ..) rfl (slot_one ..) ?_; clear tok)
  refine (within_calls n 1000 _ (by decide) (by decide) Hn.out).mono ?_
  rintro e w3 ⟨rfl, hw3⟩
  rw [HM.out]
  have hE23 : Ext w2 w3 := hw3 ▸ ((Ext.refl w2).alloc _).row (Nat.le_of_eq HBg.out) _
  have HG := Lib.hid (show SlotAt w3 Bg K L S D from hw3 ▸ row_at Zg.out)
  have hE := hE.trans hE23
  clear hE23 hw3 HBg Zg
  go_wp2_with fail
  refine (within_calls which 6 _ (by decide) (by decide) Hw.out).mono ?_
  rintro e w4 ⟨rfl, hw4⟩
  rw [HQ.out]
  obtain ⟨LB, hLB⟩ : ∃ LB, w3.heap.size = LB := ⟨_, rfl⟩
  rw [hLB]
  have hl4 : w4.heap[LB]? = some (.cells #[.int .i64 0, .int .i64 (-1 - (M : Int)), .int .i64 (1099511627777 + (M : Int)), .int .i64 9223372036854775807, .int .i64 1099511627776, .int .i64 1] 3 (0, 0)) := by rw [← hw4, ← hLB]; exact heap_alloc_new w3 _
  obtain ⟨V, hV⟩ : ∃ V, serialAt M q = V := ⟨_, rfl⟩
  have hcl : w4.cell? ⟨LB, q, none⟩ = some (.int .i64 V) := by
    refine (cell_of_block hl4 q).trans ?_
    rw [← hV]
    rcases (show q = 0 ∨ q = 1 ∨ q = 2 ∨ q = 3 ∨ q = 4 ∨ q = 5 by omega) with rfl | rfl | rfl | rfl | rfl | rfl <;> rfl
  rw [hV] at HP1
  have hE34 : Ext w3 w4 := hw4 ▸ (Ext.refl w3).alloc _
  have HG := Lib.hid (HG.out.ext hE34)
  have hE := hE.trans hE34
  obtain ⟨Bv, hBv⟩ : ∃ Bv, w4.heap.size = Bv := ⟨_, rfl⟩
  have hgv : Bg < Bv := hBv ▸ HG.out.lt
  have Zh := Lib.hid (show HeadAt (w4.alloc (.cells (headCells 0 0 0 0) 30)) Bv 0 0 0 0 by rw [← hBv]; exact HeadAt.new w4 0 0 0 0)
  have Zg := Lib.hid (show SlotAt (w4.alloc (.cells (headCells 0 0 0 0) 30)) Bg K L S D from HG.out.ext ((Ext.refl w4).alloc _))
  have HBv := Lib.hid hBv
  clear hl4 hV hE34 hw4 hLB hBv
  have tok1 : True := trivial
  have tok2 : True := trivial
  have tok3 : True := trivial
  go_wp2_with (first | (have _t := tok1; clear _t; (try rw [HBv.out]); refine wpList_store_row rfl 30 _ _ rfl Bv (headCells V 0 0 0) rfl rfl 30 (headCells 0 0 0 0) Zh.out (head_info ..) rfl (head_one ..) ?_; clear tok1) | (have _t := tok2; clear _t; refine wpList_load_row rfl 30 _ rfl Bv rfl 30 (headCells V 0 0 0) (0, 0) _ (row_at Zh.out) Try.underlying30 rfl (head_info ..) ?_; clear tok2) | (have _t := tok3; clear _t; refine wpList_load_row rfl 24 _ rfl Bg rfl 24 (slotCells K L S D) (0, 0) _ (row_keep Zg.out (by omega)) Try.underlying24 rfl (slot_info ..) ?_; clear tok3))
  obtain ⟨w5, hw5⟩ : ∃ w5, (w4.alloc (.cells (headCells 0 0 0 0) 30)).setRow Bv (headCells V 0 0 0) = w5 := ⟨_, rfl⟩
  rw [hw5]
  have HG := Lib.hid (show SlotAt w5 Bg K L S D from hw5 ▸ row_keep Zg.out (by omega))
  have hE := hE.trans (hw5 ▸ ((Ext.refl w4).alloc _).row (Nat.le_of_eq HBv.out) _)
  clear hw5 Zh Zg HBv hcl hgv
  refine (DBytes_calls V 0 0 0 K L S D w5).mono ?_
  rintro e w6 ⟨v6, rfl, hO6, hE6⟩
  have HG := Lib.hid (HG.out.ext hE6)
  have hE := hE.trans hE6
  obtain ⟨X, hX⟩ : ∃ X, entryBytes V 0 0 0 K L S D = X := ⟨_, rfl⟩
  have hXr : ∀ x ∈ X, 0 ≤ x ∧ x < 256 := by rw [← hX]; exact entryZ_range _ _ _ _ _ _ _ _ _ HDr.out (fun x hx => by rw [List.eq_of_mem_replicate hx]; decide)
  have hXl : X.length ≤ 1000000 := by rw [← hX, entryBytes_length]; decide
  rw [hX] at hO6 HP1
  have HO6 := Lib.hid hO6
  clear hE6 hO6 hX
  go_wp2_with fail
  refine (Parse_calls v6 X w6 hXl (ownsRow.reads HO6.out) hXr).mono ?_
  rintro e w7 ⟨rfl, hE7⟩
  have HG := Lib.hid (HG.out.ext hE7)
  have hE := hE.trans hE7
  clear hE7 hXr hXl HO6
  obtain ⟨x1, y1, z1, u1, k1, l1, s1, d1, hps⟩ := parsed_shape X
  rw [hps]
  obtain ⟨F, hF⟩ : ∃ F, parseF X = F := ⟨_, rfl⟩
  rw [hF] at HP1 ⊢
  clear hps hF
  have hg7 := HG.out.lt
  obtain ⟨Bh7, hB7⟩ : ∃ Bh7, w7.heap.size = Bh7 := ⟨_, rfl⟩
  have Z07 := Lib.hid (show HeadAt ((w7.alloc (.cells (headCells 0 0 0 0) 30)).alloc (.cells (slotCells 0 0 0 (fun _ => 0)) 24)) Bh7 0 0 0 0 by rw [← hB7]; exact (HeadAt.new w7 0 0 0 0).ext ((Ext.refl _).alloc _))
  have Z17 := Lib.hid (show SlotAt ((w7.alloc (.cells (headCells 0 0 0 0) 30)).alloc (.cells (slotCells 0 0 0 (fun _ => 0)) 24)) (Bh7 + 1) 0 0 0 (fun _ => 0) by
    rw [← hB7]; have := SlotAt.new (w7.alloc (.cells (headCells 0 0 0 0) 30)) 0 0 0 (fun _ => 0); rwa [World.size_alloc] at this)
  have hEp7 : Ext w7 ((w7.alloc (.cells (headCells 0 0 0 0) 30)).alloc (.cells (slotCells 0 0 0 (fun _ => 0)) 24)) := ((Ext.refl w7).alloc _).alloc _
  have Hb7 := Lib.hid hB7
  clear hB7
  have tkh7 : True := trivial
  have tks7 : True := trivial
  have tok3 : True := trivial
  go_wp2_with (first | (have _t := tkh7; clear _t; (try rw [Hb7.out]); refine wpList_store_row rfl 30 _ _ rfl Bh7 (headCells x1 y1 z1 u1) rfl rfl 30 (headCells 0 0 0 0) Z07.out (head_info ..) rfl (head_one ..) ?_; clear tkh7) | (have _t := tks7; clear _t; refine wpList_store_row rfl 24 _ _ rfl (Bh7 + 1) (slotCells k1 l1 s1 d1) rfl rfl 24 (slotCells 0 0 0 (fun _ => 0)) (row_keep Z17.out (by omega)) (slot_info ..) rfl (slot_one ..) ?_; clear tks7) | (have _t := tok3; clear _t; refine wpList_load_row rfl 24 _ rfl Bg rfl 24 (slotCells K L S D) (0, 0) _ (row_keep (row_keep (HG.out.ext hEp7) (by have := Hb7.out; omega)) (by have := Hb7.out; omega)) Try.underlying24 rfl (slot_info ..) ?_; clear tok3))
  obtain ⟨w8, hw8⟩ : ∃ w8, (((w7.alloc (.cells (headCells 0 0 0 0) 30)).alloc (.cells (slotCells 0 0 0 (fun _ => 0)) 24)).setRow Bh7 (headCells x1 y1 z1 u1)).setRow (Bh7 + 1) (slotCells k1 l1 s1 d1) = w8 := ⟨_, rfl⟩
  rw [hw8]
  have hE := hE.trans (hw8 ▸ ((Ext.refl w7).trans ((hEp7.row (Nat.le_of_eq Hb7.out) _).row (by have := Hb7.out; omega) _)))
  clear hw8 Z07 Z17 Hb7 hEp7 HG hg7
  have hEw := hE.size
  refine (DBytes_calls 1 0 0 0 K L S D w8).mono ?_
  rintro e w9 ⟨v9, rfl, hO9, hE9⟩
  have hE9' := hE9.size
  have hE := hE.trans hE9
  obtain ⟨X, hX⟩ : ∃ X, entryBytes 1 0 0 0 K L S D = X := ⟨_, rfl⟩
  have hXr : ∀ x ∈ X, 0 ≤ x ∧ x < 256 := by rw [← hX]; exact entryZ_range _ _ _ _ _ _ _ _ _ HDr.out (fun x hx => by rw [List.eq_of_mem_replicate hx]; decide)
  have hXl : X.length = 48 := by rw [← hX, entryBytes_length]
  rw [hX] at hO9 HP2
  obtain ⟨g, c, rfl, hc1, hc2, hgw, _⟩ := Own.pos hO9 (by omega)
  rw [hXl] at hO9 hc1 ⊢
  have HO9 := Lib.hid hO9
  have HXr := Lib.hid hXr
  have HXl := Lib.hid hXl
  unfold maxLen at hc2
  have hwg : w.heap.size ≤ g := Nat.le_trans hEw hgw
  clear hE9 hO9 hX hXr hXl hE9'
  go_wp2_with fail
  refine (within_calls which 4 _ (by decide) (by decide) Hw.out).mono ?_
  rintro e w' ⟨rfl, rfl⟩
  rw [HPp.out]
  obtain ⟨hat, hfr⟩ := Own.at HO9.out (44 + p) (by rw [HXl.out]; omega)
  obtain ⟨w10, hw10⟩ : ∃ w10, w9.setCell ⟨g, 44 + p, none⟩ (.int .u8 byv) = w10 := ⟨_, rfl⟩
  have HO10 := Lib.hid (hw10 ▸ Own.store HO9.out HXl.out.symm (44 + p) byv)
  have hE := hw10 ▸ hE.set (a := ⟨g, 44 + p, none⟩) hwg (.int .u8 byv)
  clear HO9
  go_wp2_with fail
  refine (Parse_calls _ (X.set (44 + p) byv) w10 (by rw [List.length_set, HXl.out]; decide) (ownsRow.reads HO10.out) (fun x hx => by
    rcases List.mem_or_eq_of_mem_set hx with h | rfl
    · exact HXr.out x h
    · have := Hb.out; omega)).mono ?_
  rintro e w11 ⟨rfl, hE11⟩
  have hE := hE.trans hE11
  clear hE11 hat hfr hw10 HO10 HXr HXl
  obtain ⟨x2, y2, z2, u2, k2, l2, s2, d2, hps⟩ := parsed_shape (X.set (44 + p) byv)
  rw [hps]
  obtain ⟨G, hG⟩ : ∃ G, parseF (X.set (44 + p) byv) = G := ⟨_, rfl⟩
  rw [hG] at HP2 ⊢
  clear hps hG
  obtain ⟨Bh8, hB8⟩ : ∃ Bh8, w11.heap.size = Bh8 := ⟨_, rfl⟩
  have Z08 := Lib.hid (show HeadAt ((w11.alloc (.cells (headCells 0 0 0 0) 30)).alloc (.cells (slotCells 0 0 0 (fun _ => 0)) 24)) Bh8 0 0 0 0 by rw [← hB8]; exact (HeadAt.new w11 0 0 0 0).ext ((Ext.refl _).alloc _))
  have Z18 := Lib.hid (show SlotAt ((w11.alloc (.cells (headCells 0 0 0 0) 30)).alloc (.cells (slotCells 0 0 0 (fun _ => 0)) 24)) (Bh8 + 1) 0 0 0 (fun _ => 0) by
    rw [← hB8]; have := SlotAt.new (w11.alloc (.cells (headCells 0 0 0 0) 30)) 0 0 0 (fun _ => 0); rwa [World.size_alloc] at this)
  have hEp8 : Ext w11 ((w11.alloc (.cells (headCells 0 0 0 0) 30)).alloc (.cells (slotCells 0 0 0 (fun _ => 0)) 24)) := ((Ext.refl w11).alloc _).alloc _
  have Hb8 := Lib.hid hB8
  clear hB8
  have tkh8 : True := trivial
  have tks8 : True := trivial
  go_wp2_with (first | (have _t := tkh8; clear _t; (try rw [Hb8.out]); refine wpList_store_row rfl 30 _ _ rfl Bh8 (headCells x2 y2 z2 u2) rfl rfl 30 (headCells 0 0 0 0) Z08.out (head_info ..) rfl (head_one ..) ?_; clear tkh8) | (have _t := tks8; clear _t; refine wpList_store_row rfl 24 _ _ rfl (Bh8 + 1) (slotCells k2 l2 s2 d2) rfl rfl 24 (slotCells 0 0 0 (fun _ => 0)) (row_keep Z18.out (by omega)) (slot_info ..) rfl (slot_one ..) ?_; clear tks8))
  obtain ⟨w12, hw12⟩ : ∃ w12, (((w11.alloc (.cells (headCells 0 0 0 0) 30)).alloc (.cells (slotCells 0 0 0 (fun _ => 0)) 24)).setRow Bh8 (headCells x2 y2 z2 u2)).setRow (Bh8 + 1) (slotCells k2 l2 s2 d2) = w12 := ⟨_, rfl⟩
  rw [hw12]
  have hE := hE.trans (hw12 ▸ ((Ext.refl w11).trans ((hEp8.row (Nat.le_of_eq Hb8.out) _).row (by have := Hb8.out; omega) _)))
  clear hw12 Z08 Z18 Hb8 hEp8
  refine (within_calls which 6 _ (by decide) (by decide) Hw.out).mono ?_
  rintro e w' ⟨rfl, rfl⟩
  rw [HQ.out]
  have hP2 := HP2.out
  clear HP2
  rcases HP1.out with ⟨rfl, h4⟩ | ⟨rfl, h4⟩
  · by_cases hb0 : byv = 0
    · rw [if_pos hb0] at hP2
      subst hb0 hP2
      go_wp2_with fail
      go_ret
      exact ⟨rfl, hE⟩
    · rw [if_neg hb0] at hP2
      subst hP2
      have nb : (byv == 0) = false := beq_eq_false_iff_ne.2 hb0
      go_wp2_with fail
      go_ret
      exact ⟨rfl, hE⟩
  · have n4 : decide ((4 : Int) ≤ (q : Int)) = false := decide_eq_false (by omega)
    by_cases hb0 : byv = 0
    · rw [if_pos hb0] at hP2
      subst hb0 hP2
      go_wp2_with fail
      go_ret
      exact ⟨rfl, hE⟩
    · rw [if_neg hb0] at hP2
      subst hP2
      have nb : (byv == 0) = false := beq_eq_false_iff_ne.2 hb0
      go_wp2_with fail
      go_ret
      exact ⟨rfl, hE⟩
end Go.Proofs.Ytmbjebdkhcpclaa
