/-
  The walk of the law EntryCuts. Printed by mk_EntryCuts.py.
-/
import Derived.Test.YtmbjebdkhcpclaaEK
import Derived.Test.YtmbjebdkhcpclaaEPl
import Derived.Test.YtmbjebdkhcpclaaEDb
set_option linter.unusedSimpArgs false
set_option linter.unusedVariables false
namespace Go.Proofs.Ytmbjebdkhcpclaa
open Go.RowKit

theorem entryZ_range (a b c e k l s : Int) (d : Nat → Int) (Z : List Int) (hd : ∀ j, j < 16 → 0 ≤ d j ∧ d j < 256) (hZ : ∀ x ∈ Z, 0 ≤ x ∧ x < 256) : ∀ x ∈ entryZ a b c e k l s d Z, 0 ≤ x ∧ x < 256 := by
  intro x hx
  simp only [entryZ, frontBytes, List.mem_append] at hx
  rcases hx with (((((((h | h) | h) | h) | h) | h) | h) | h) | h
  · exact leBytes_range _ _ x h
  · exact leBytes_range _ _ x h
  · exact leBytes_range _ _ x h
  · exact leBytes_range _ _ x h
  · exact leBytes_range _ _ x h
  · exact leBytes_range _ _ x h
  · exact leBytes_range _ _ x h
  · simp only [dataList, List.mem_cons, List.not_mem_nil, or_false] at h
    rcases h with rfl | rfl | rfl | rfl | rfl | rfl | rfl | rfl | rfl | rfl | rfl | rfl | rfl | rfl | rfl | rfl <;> exact hd _ (by decide)
  · exact hZ x h
theorem goodD_range (k : Int) (d : Nat → Int) (hd : ∀ j, j < 16 → 0 ≤ d j ∧ d j < 256) : ∀ j, j < 16 → 0 ≤ goodD k d j ∧ goodD k d j < 256 := by
  intro j hj
  rw [goodD_eq]
  split
  · exact hd j hj
  · omega
theorem i64_small {x : Int} (h : 0 ≤ x ∧ x ≤ 1000000) : -9223372036854775808 ≤ x ∧ x ≤ 9223372036854775807 := by omega
theorem goodL_i64 (k l : Int) : -9223372036854775808 ≤ goodL k l ∧ goodL k l ≤ 9223372036854775807 := by have := goodL_range k l; omega
theorem goodS_i64 (k s : Int) : -9223372036854775808 ≤ goodS k s ∧ goodS k s ≤ 9223372036854775807 := by have := goodS_range k s; omega
/-- A good slot's bytes, read. -/
theorem parsed_good (a b c e k l s : Int) (d : Nat → Int) (ha : 1 ≤ a ∧ a ≤ 1099511627776) :
    parsed (entryBytes a b c e (k % 4) (goodL k l) (goodS k s) (goodD k d)) = .tuple #[headVal a (b % 256) (c % 256) (e % 256), slotVal (k % 4) (goodL k l) (goodS k s) (goodD k d), .int .i64 0] := by
  rw [entryZ_zeros, parsed_z _ _ _ _ _ _ _ _ _ rfl (by omega) (goodL_i64 k l) (goodS_i64 k s) (by rw [good_zBad, decide_eq_true ha]; rfl), show k % 4 % 256 = k % 4 by omega]

set_option maxHeartbeats 4000000 in
set_option maxRecDepth 100000 in
theorem EntryCuts_walk (k l s : Int) (d : Nat → Int) (n : Int) (w : World) (hk : (Lit.int .i64 k).wf = true) (hl : (Lit.int .i64 l).wf = true) (hs : (Lit.int .i64 s).wf = true) (hd : ∀ j, j < 16 → 0 ≤ d j ∧ d j < 256) (hn : (Lit.int .i64 n).wf = true) :
    Calls Try.prog 5 #[slotVal k l s d, .int .i64 n] w fun e w' => e = .returned (.bool true) ∧ Ext w w' := by
  have Hk := Lib.hid (bounds_i64 hk)
  have Hl := Lib.hid (bounds_i64 hl)
  have Hs := Lib.hid (bounds_i64 hs)
  have Hn := Lib.hid (bounds_i64 hn)
  have Hd := Lib.hid hd
  clear hk hl hs hn hd
  obtain ⟨N, hN⟩ : ∃ N : Nat, n % 100 = N := ⟨(n % 100).toNat, by omega⟩
  have hN1 : N < 100 := by omega
  have HN := Lib.hid hN
  clear hN
  go_enter Try.func5, Try.ntmps5
  go_wp2_with fail
  obtain ⟨B, hB⟩ : ∃ B, w.heap.size = B := ⟨_, rfl⟩
  obtain ⟨wA, hwA⟩ : ∃ wA, w.alloc (.cells (slotCells k l s d) 24) = wA := ⟨_, rfl⟩
  have HS := Lib.hid (show SlotAt wA B k l s d by rw [← hwA, ← hB]; exact SlotAt.new w k l s d)
  have hE0 : Ext w wA := hwA ▸ (Ext.refl w).alloc _
  rw [hwA, hB]
  clear hwA hB
  refine (known10_calls wA).mono ?_
  rintro e w1 ⟨rfl, hE1⟩
  have HS := Lib.hid (HS.out.ext hE1)
  have hE := hE0.trans hE1
  clear hE0 hE1
  go_wp2_with fail
  refine (within_calls n 100 w1 (by decide) (by decide) Hn.out).mono ?_
  rintro e w' ⟨rfl, rfl⟩
  rw [HN.out]
  have tok : True := trivial
  go_wp2_with (have _t := tok; clear _t; refine wpList_load_row rfl 24 _ rfl B rfl 24 (slotCells k l s d) (0, 0) _ HS.out Try.underlying24 rfl (slot_info ..) ?_; clear tok)
  refine (Good_calls k l s d w1 Hk.out Hl.out Hs.out).mono ?_
  rintro e w2 ⟨rfl, hE2⟩
  obtain ⟨K, hK⟩ : ∃ K, k % 4 = K := ⟨_, rfl⟩
  obtain ⟨L, hL⟩ : ∃ L, goodL k l = L := ⟨_, rfl⟩
  obtain ⟨S, hS⟩ : ∃ S, goodS k s = S := ⟨_, rfl⟩
  obtain ⟨D, hD⟩ : ∃ D, goodD k d = D := ⟨_, rfl⟩
  have hP := parsed_good 3 0 0 0 k l s d (by decide)
  have hDr := goodD_range k d Hd.out
  rw [hK, hL, hS, hD] at hP
  rw [hD] at hDr
  have HP := Lib.hid hP
  have HDr := Lib.hid hDr
  rw [hK, hL, hS, hD]
  have hE := hE.trans hE2
  clear hE2 hK hL hS hD hP hDr HS
  go_wp2_with fail
  refine (DBytes_calls 3 0 0 0 K L S D w2).mono ?_
  rintro e w3 ⟨v3, rfl, hO3, hE3⟩
  have HO3 := Lib.hid hO3
  obtain ⟨X, hX⟩ : ∃ X, entryBytes 3 0 0 0 K L S D = X := ⟨_, rfl⟩
  have hXl : X.length = 48 := by rw [← hX]; exact entryBytes_length ..
  have hXr : ∀ x ∈ X, 0 ≤ x ∧ x < 256 := by rw [← hX]; exact entryZ_range _ _ _ _ _ _ _ _ _ HDr.out (fun x hx => by rw [List.eq_of_mem_replicate hx]; decide)
  rw [hX] at HO3 HP
  have HXl := Lib.hid hXl
  have HXr := Lib.hid hXr
  clear hO3 hX hXl hXr
  have tok : True := trivial
  go_wp2_with (at_builtin; have _t := tok; clear _t; go_loud (refine wpList_append_zeros (w0 := w2) rfl _ _ 26 3 5 .u8 .i64 .i64 1 rfl Try.underlying26 Try.underlying3 infoU8 (by decide) v3 X 60 rfl rfl HO3.out hE3 (by rw [HXl.out]; decide) ?_); intro v4 w4 hO4 hE4; go_loud (obtain ⟨g, c, rfl, hc1, hc2, _, _⟩ := Own.pos hO4 (by rw [List.length_append, HXl.out]; decide)); have HO4 := Lib.hid hO4; clear hO4 tok HO3; have h108 : (X ++ List.replicate 60 0).length = 108 := (by rw [List.length_append, HXl.out]; rfl); go_loud (rw [h108] at HO4); go_loud (rw [h108] at hc1); go_loud (rw [h108]); clear h108; go_loud (unfold maxLen at hc2))
  have hRn : Rd w4 .u8 (.slice (some ⟨g, 0, none⟩) N c) ((X ++ List.replicate 60 0).take N) := by
    have h := ownsRow.reads HO4.out
    have h2 : Rd w4 .u8 (.slice (some ⟨g, 0, none⟩) 108 c) ((X ++ List.replicate 60 0).take N ++ (X ++ List.replicate 60 0).drop N) := by rw [List.take_append_drop]; exact h
    exact Rd.len (rd_left h2) (by rw [List.length_take, List.length_append, HXl.out, List.length_replicate]; omega)
  have hYl : ((X ++ List.replicate 60 0).take N).length = N := by rw [List.length_take, List.length_append, HXl.out, List.length_replicate]; omega
  have hYr : ∀ x ∈ (X ++ List.replicate 60 0).take N, 0 ≤ x ∧ x < 256 := by
    intro x hx
    rcases List.mem_append.1 (List.mem_of_mem_take hx) with h | h
    · exact HXr.out x h
    · rw [List.eq_of_mem_replicate h]; decide
  have hY48 : N = 48 → (X ++ List.replicate 60 0).take N = X := by
    intro h
    rw [h, ← HXl.out]; exact List.take_left
  obtain ⟨Y, hY⟩ : ∃ Y, (X ++ List.replicate 60 0).take N = Y := ⟨_, rfl⟩
  rw [hY] at hRn hYl hYr hY48
  have HY48 := Lib.hid hY48
  have HYl := Lib.hid hYl
  refine (Parse_calls _ Y w4 (by omega) hRn hYr).mono ?_
  rintro e w6 ⟨rfl, hE6⟩
  have hE := (hE.trans hE4).trans hE6
  clear hRn hYr hY48 hY hYl hE6 hE4 hE3 HO4
  by_cases h1 : N < 48
  · have hf : parseF Y = 3 := by
      unfold parseF endAt
      rw [HYl.out, if_pos h1]; rfl
    rw [parsed_bad Y (by rw [hf]; decide), hf]
    clear hf
    obtain ⟨Bh, hB⟩ : ∃ Bh, w6.heap.size = Bh := ⟨_, rfl⟩
    have Z0 := Lib.hid (show HeadAt ((w6.alloc (.cells (headCells 0 0 0 0) 30)).alloc (.cells (slotCells 0 0 0 (fun _ => 0)) 24)) Bh 0 0 0 0 by rw [← hB]; exact (HeadAt.new w6 0 0 0 0).ext ((Ext.refl _).alloc _))
    have Z1 := Lib.hid (show SlotAt ((w6.alloc (.cells (headCells 0 0 0 0) 30)).alloc (.cells (slotCells 0 0 0 (fun _ => 0)) 24)) (Bh + 1) 0 0 0 (fun _ => 0) by
      rw [← hB]; have := SlotAt.new (w6.alloc (.cells (headCells 0 0 0 0) 30)) 0 0 0 (fun _ => 0); rwa [World.size_alloc] at this)
    have hEp : Ext w6 ((w6.alloc (.cells (headCells 0 0 0 0) 30)).alloc (.cells (slotCells 0 0 0 (fun _ => 0)) 24)) := ((Ext.refl w6).alloc _).alloc _
    have Hb := Lib.hid hB
    clear hB
    have tkh : True := trivial
    have tks : True := trivial
    have tlh : True := trivial
    have tls : True := trivial
    have q9 : ∀ w, (Op.equalIn 9999 22 (.agg (dataCells (fun _ => 0))) (.agg (dataCells (fun _ => 0)))).run Try.prog w = .ok true w := fun w => eq_data9 _ _ w
    go_wp2_with (first | (have _t := tkh; clear _t; (try rw [Hb.out]); refine wpList_store_row rfl 30 _ _ rfl Bh (headCells 0 0 0 0) rfl rfl 30 (headCells 0 0 0 0) Z0.out (head_info ..) rfl (head_one ..) ?_; clear tkh) | (have _t := tks; clear _t; refine wpList_store_row rfl 24 _ _ rfl (Bh + 1) (slotCells 0 0 0 (fun _ => 0)) rfl rfl 24 (slotCells 0 0 0 (fun _ => 0)) (row_keep Z1.out (by omega)) (slot_info ..) rfl (slot_one ..) ?_; clear tks) | (have _t := tlh; clear _t; refine wpList_load_rowg (by rfl) 30 _ rfl Bh rfl 30 (headCells 0 0 0 0) (0, 0) _ (row_keep (row_at Z0.out) (by omega)) Try.underlying30 rfl (head_info ..) ?_; clear tlh) | (have _t := tls; clear _t; refine wpList_load_rowg (by rfl) 24 _ rfl (Bh + 1) rfl 24 (slotCells 0 0 0 (fun _ => 0)) (0, 0) _ (row_at (row_keep Z1.out (by omega))) Try.underlying24 rfl (slot_info ..) ?_; clear tls))
    go_ret
    exact ⟨rfl, (hE).trans ((hEp.row (Nat.le_of_eq Hb.out) _).row (by have := Hb.out; omega) _)⟩
  · by_cases h2 : N = 48
    · subst h2
      rw [HY48.out rfl, HP.out]
      obtain ⟨Bh, hB⟩ : ∃ Bh, w6.heap.size = Bh := ⟨_, rfl⟩
      have Z0 := Lib.hid (show HeadAt ((w6.alloc (.cells (headCells 0 0 0 0) 30)).alloc (.cells (slotCells 0 0 0 (fun _ => 0)) 24)) Bh 0 0 0 0 by rw [← hB]; exact (HeadAt.new w6 0 0 0 0).ext ((Ext.refl _).alloc _))
      have Z1 := Lib.hid (show SlotAt ((w6.alloc (.cells (headCells 0 0 0 0) 30)).alloc (.cells (slotCells 0 0 0 (fun _ => 0)) 24)) (Bh + 1) 0 0 0 (fun _ => 0) by
        rw [← hB]; have := SlotAt.new (w6.alloc (.cells (headCells 0 0 0 0) 30)) 0 0 0 (fun _ => 0); rwa [World.size_alloc] at this)
      have hEp : Ext w6 ((w6.alloc (.cells (headCells 0 0 0 0) 30)).alloc (.cells (slotCells 0 0 0 (fun _ => 0)) 24)) := ((Ext.refl w6).alloc _).alloc _
      have Hb := Lib.hid hB
      clear hB
      have tkh : True := trivial
      have tks : True := trivial
      have tlh : True := trivial
      have tls : True := trivial
      have q9 : ∀ w, (Op.equalIn 9999 22 (.agg (dataCells (fun _ => 0))) (.agg (dataCells (fun _ => 0)))).run Try.prog w = .ok true w := fun w => eq_data9 _ _ w
      go_wp2_with (first | (have _t := tkh; clear _t; (try rw [Hb.out]); refine wpList_store_row rfl 30 _ _ rfl Bh (headCells 3 0 0 0) rfl rfl 30 (headCells 0 0 0 0) Z0.out (head_info ..) rfl (head_one ..) ?_; clear tkh) | (have _t := tks; clear _t; refine wpList_store_row rfl 24 _ _ rfl (Bh + 1) (slotCells K L S D) rfl rfl 24 (slotCells 0 0 0 (fun _ => 0)) (row_keep Z1.out (by omega)) (slot_info ..) rfl (slot_one ..) ?_; clear tks) | (have _t := tlh; clear _t; refine wpList_load_rowg (by rfl) 30 _ rfl Bh rfl 30 (headCells 3 0 0 0) (0, 0) _ (row_keep (row_at Z0.out) (by omega)) Try.underlying30 rfl (head_info ..) ?_; clear tlh) | (have _t := tls; clear _t; refine wpList_load_rowg (by rfl) 24 _ rfl (Bh + 1) rfl 24 (slotCells K L S D) (0, 0) _ (row_at (row_keep Z1.out (by omega))) Try.underlying24 rfl (slot_info ..) ?_; clear tls))
      go_ret
      exact ⟨rfl, (hE).trans ((hEp.row (Nat.le_of_eq Hb.out) _).row (by have := Hb.out; omega) _)⟩
    · have h3 : 48 < N := by omega
      have hf : parseF Y = 4 := by
        unfold parseF endAt
        rw [HYl.out, if_neg h1, if_pos h3]; rfl
      rw [parsed_bad Y (by rw [hf]; decide), hf]
      clear hf
      obtain ⟨Bh, hB⟩ : ∃ Bh, w6.heap.size = Bh := ⟨_, rfl⟩
      have Z0 := Lib.hid (show HeadAt ((w6.alloc (.cells (headCells 0 0 0 0) 30)).alloc (.cells (slotCells 0 0 0 (fun _ => 0)) 24)) Bh 0 0 0 0 by rw [← hB]; exact (HeadAt.new w6 0 0 0 0).ext ((Ext.refl _).alloc _))
      have Z1 := Lib.hid (show SlotAt ((w6.alloc (.cells (headCells 0 0 0 0) 30)).alloc (.cells (slotCells 0 0 0 (fun _ => 0)) 24)) (Bh + 1) 0 0 0 (fun _ => 0) by
        rw [← hB]; have := SlotAt.new (w6.alloc (.cells (headCells 0 0 0 0) 30)) 0 0 0 (fun _ => 0); rwa [World.size_alloc] at this)
      have hEp : Ext w6 ((w6.alloc (.cells (headCells 0 0 0 0) 30)).alloc (.cells (slotCells 0 0 0 (fun _ => 0)) 24)) := ((Ext.refl w6).alloc _).alloc _
      have Hb := Lib.hid hB
      clear hB
      have tkh : True := trivial
      have tks : True := trivial
      have tlh : True := trivial
      have tls : True := trivial
      have q9 : ∀ w, (Op.equalIn 9999 22 (.agg (dataCells (fun _ => 0))) (.agg (dataCells (fun _ => 0)))).run Try.prog w = .ok true w := fun w => eq_data9 _ _ w
      go_wp2_with (first | (have _t := tkh; clear _t; (try rw [Hb.out]); refine wpList_store_row rfl 30 _ _ rfl Bh (headCells 0 0 0 0) rfl rfl 30 (headCells 0 0 0 0) Z0.out (head_info ..) rfl (head_one ..) ?_; clear tkh) | (have _t := tks; clear _t; refine wpList_store_row rfl 24 _ _ rfl (Bh + 1) (slotCells 0 0 0 (fun _ => 0)) rfl rfl 24 (slotCells 0 0 0 (fun _ => 0)) (row_keep Z1.out (by omega)) (slot_info ..) rfl (slot_one ..) ?_; clear tks) | (have _t := tlh; clear _t; refine wpList_load_rowg (by rfl) 30 _ rfl Bh rfl 30 (headCells 0 0 0 0) (0, 0) _ (row_keep (row_at Z0.out) (by omega)) Try.underlying30 rfl (head_info ..) ?_; clear tlh) | (have _t := tls; clear _t; refine wpList_load_rowg (by rfl) 24 _ rfl (Bh + 1) rfl 24 (slotCells 0 0 0 (fun _ => 0)) (0, 0) _ (row_at (row_keep Z1.out (by omega))) Try.underlying24 rfl (slot_info ..) ?_; clear tls))
      go_ret
      exact ⟨rfl, (hE).trans ((hEp.row (Nat.le_of_eq Hb.out) _).row (by have := Hb.out; omega) _)⟩
end Go.Proofs.Ytmbjebdkhcpclaa
