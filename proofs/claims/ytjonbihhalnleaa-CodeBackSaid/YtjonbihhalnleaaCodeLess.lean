/-
  The walk of the law CodeLess.
-/
import Derived.Test.YtjonbihhalnleaaCodeFails
import Derived.Test.YtjonbihhalnleaaZe
import Derived.Test.YtjonbihhalnleaaRc
set_option linter.unusedSimpArgs false
set_option linter.unusedVariables false
namespace Go.Proofs.Ytjonbihhalnleaa
open Go.RowKit
attribute [local go_sem] slotEval

theorem CodeLess_large (vb : Value) (xs : List Int) (n : Int) (w : World) (hr : Rd w .u8 vb xs) (hx : 40 < xs.length) :
    Calls Try.prog 5 #[vb, .int .i64 n] w fun e w' => e = .returned (.bool true) ∧ Ext w w' := by
  obtain ⟨Ab, cb, rfl⟩ := hr.shape
  clear hr
  go_enter Try.func5, Try.ntmps5
  go_wp2_with fail
  refine (known1_calls w).mono ?_
  rintro e w1 ⟨rfl, hE1⟩
  go_wp2_with fail
  go_ret
  exact ⟨rfl, hE1⟩

set_option maxHeartbeats 2000000 in
set_option maxRecDepth 100000 in
theorem CodeLess_small (vb : Value) (xs : List Int) (n : Int) (w : World) (hr : Rd w .u8 vb xs) (hx : xs.length ≤ 40) (hxs : ∀ n ∈ xs, (Lit.int .u8 n).wf = true) (hn : (Lit.int .i64 n).wf = true) :
    Calls Try.prog 5 #[vb, .int .i64 n] w fun e w' => e = .returned (.bool true) ∧ Ext w w' := by
  obtain ⟨Ab, cb, rfl⟩ := hr.shape
  have Hxs := Lib.hid (bytes_range hxs)
  have Hn := Lib.hid (bounds_i64 hn)
  have hr := Lib.hid hr
  clear hxs hn
  obtain ⟨p, hp⟩ : ∃ p : Nat, n % 8 = p := ⟨(n % 8).toNat, by omega⟩
  have hp1 : p < 8 := by omega
  have Hp := Lib.hid hp
  clear hp
  go_enter Try.func5, Try.ntmps5
  go_wp2_with fail
  refine (known1_calls w).mono ?_
  rintro e w1 ⟨rfl, hE1⟩
  go_wp2_with fail
  refine (within_calls n 8 w1 (by decide) (by decide) Hn.out).mono ?_
  rintro e w' ⟨rfl, rfl⟩
  rw [Hp.out]
  have tok1 : True := trivial
  have tok2 : True := trivial
  go_wp2_with (first | (at_builtin; have _t := tok1; clear _t; refine wpList_append_rd (w0 := w1) rfl _ _ 22 5 .u8 1 rfl Try.underlying22 infoU8 (by decide) (.slice (some ⟨w1.heap.size, 0, none⟩) 0 0) (.slice Ab xs.length cb) [] xs rfl rfl (World.ownsRow_lit (base := w1.heap.size) (e := 5) (size := 1) w1 #[] 0 (Nat.le_refl _) (Nat.zero_le _) rfl) ((hr.out.ext hE1).ext ((Ext.refl _).alloc _)) ((Ext.refl w1).alloc _) (by simp; omega) ?_; intro vc w2 hOc hE2; have HO2 := Lib.hid hOc; clear hOc tok1) | (at_builtin; have _t := tok2; clear _t; go_must (refine wpList_append_zeros (w0 := w1) rfl _ _ 22 3 5 .u8 .i64 .i64 1 rfl Try.underlying22 Try.underlying3 infoU8 (by decide) vc ([] ++ xs) p rfl rfl HO2.out hE2 (by simp; omega) ?_); intro vd w3 hOd hE3; have HO3 := Lib.hid hOd; clear hOd HO2 tok2))
  refine (New_calls vd ([] ++ xs ++ List.replicate p 0) w3 (by simp; omega) (ownsRow.reads HO3.out)).mono ?_
  rintro e w4 ⟨g, rfl, hR, hg, hgl, hE4⟩
  have HR := Lib.hid (show RdS (w3.heap.size ≤ ·) w4 g (xs ++ List.replicate p 0) 0 from hR)
  have hE := ((hE1.trans hE3).trans hE4)
  have hgw : w.heap.size ≤ g := Nat.le_trans (Nat.le_trans hE1.size hE3.size) hg
  clear hR HO3 hE2 hE3 hE4 hg hgl
  go_wp2_with fail
  go_loopw [6] (fun iv wr => ∃ i : Nat, i ≤ xs.length ∧ iv = .int .i64 i ∧ RdS (w3.heap.size ≤ ·) wr g (xs.drop i ++ List.replicate p 0) 0 ∧ Ext w wr) (fun iv wr => xs.length - (intOf iv).toNat)
  case atStart => exact ⟨0, Nat.zero_le _, rfl, HR.out, hE⟩
  case round =>
    obtain ⟨i, hi, rfl, hR, hE⟩ := hrel
    have HR := Lib.hid hR
    clear hR
    by_cases hlt : i < xs.length
    · obtain ⟨b, off, cap, he, hcap, hcapm, hcells⟩ := Rd.pos hr.out (by omega)
      cases he
      have hcell := hcells i hlt
      have hbw : b < w.heap.size := World.block_lt_of_cell? w _ hcell
      clear hcells
      unfold maxLen at hcapm
      have hdrop : xs.drop i = xs.getD i 0 :: xs.drop (i + 1) := by
        rw [List.drop_eq_getElem_cons hlt]
        simp [List.getD_eq_getElem?_getD, List.getElem?_eq_getElem hlt]
      have hq0 := Hxs.out (xs.getD i 0) (by rw [List.getD_eq_getElem?_getD, List.getElem?_eq_getElem hlt]; exact List.getElem_mem _)
      obtain ⟨q, hq⟩ : ∃ q, xs.getD i 0 = q := ⟨_, rfl⟩
      rw [hq] at hcell hdrop hq0
      obtain ⟨hq1, hq2⟩ := hq0
      have Hdrop := Lib.hid hdrop
      have hrange : ∀ x ∈ xs.drop i ++ List.replicate p 0, 0 ≤ x ∧ x < 256 := by
        intro x hx
        rcases List.mem_append.1 hx with h | h
        · exact Hxs.out x (List.mem_of_mem_drop h)
        · rw [List.eq_of_mem_replicate h]; omega
      have Hrange := Lib.hid hrange
      clear hq hdrop hrange
      go_wp2_with fail
      have hE0 := hE
      have hcell1 := (hE.cell hcell)
      refine wp_region_chain mixed [1]
          [(· = .pointer (some ⟨g, 0, none⟩)),
           (· = .int .i64 q),
           (· = .slice (some ⟨b, off, none⟩) xs.length cb),
           (· = .int .i64 i),
           (· = .pointer (some ⟨b, off + i, none⟩)),
           (· = .int .u8 q),
           (· = .int .i64 q),
           (· = .bool false)]
          (w.heap.size) (fun k w' => match k with | 0 => RdS (w3.heap.size ≤ ·) w' g (xs.drop i ++ List.replicate p 0) 0 | _ => RdS (w3.heap.size ≤ ·) w' g (xs.drop (i + 1) ++ List.replicate p 0) 0)
          (by kernel_rfl) (by kernel_rfl) (by decide) ?start ?steps ?post
      case start => exact HR.out
      case steps =>
        refine ⟨?_, ?_, ?_, ?_, ?_, ?_, ?_, ?_, trivial⟩
        · refine chain_pure (by kernel_rfl) fun σ w hE hold hk => ?_
          have h5 : σ 5 = .pointer (some ⟨g, 0, none⟩) := hold 5 (by kernel_rfl)
          exact ⟨rfl, _, op_move rfl, h5⟩
        · refine chain_turn (k := 0) (by kernel_rfl) fun σ w hE hold hk hT => ?_
          have h26 : σ 26 = .pointer (some ⟨g, 0, none⟩) := hk.1
          refine ⟨rfl, Does.call (op_call1 rfl Try.func17 (by kernel_rfl) (by kernel_rfl) h26) (RByte_calls g _ 0 w hT Hrange.out) ?_⟩
          rintro e w' ⟨rfl, hR, hG⟩
          have hF : readF 1 (xs.drop i ++ List.replicate p 0) 0 = (q, xs.drop (i + 1) ++ List.replicate p 0, 0) := by
            rw [Hdrop.out, readF, if_neg (by decide), if_neg (by simp)]; simp [leVal]
          rw [hF] at hR ⊢
          exact ⟨_, rfl, below_row hG (Nat.le_trans hE0.size hE.size) hgw, hR, by show Value.int .i64 (IntKind.i64.wrap q) = .int .i64 q; rw [IntKind.wrap_i64]; congr 1; omega⟩
        · refine chain_pure (by kernel_rfl) fun σ w hE hold hk => ?_
          have h0 : σ 0 = .slice (some ⟨b, off, none⟩) xs.length cb := hold 0 (by kernel_rfl)
          exact ⟨rfl, _, op_move rfl, h0⟩
        · refine chain_pure (by kernel_rfl) fun σ w hE hold hk => ?_
          have h6 : σ 6 = .int .i64 i := hold 6 (by kernel_rfl)
          exact ⟨rfl, _, op_move rfl, h6⟩
        · refine chain_pure (by kernel_rfl) fun σ w hE hold hk => ?_
          have h28 : σ 28 = .slice (some ⟨b, off, none⟩) xs.length cb := hk.1
          have h29 : σ 29 = .int .i64 i := hk.2.1
          exact ⟨rfl, .pointer (some ⟨b, off + i, none⟩), by go_simp, rfl⟩
        · refine chain_pure (by kernel_rfl) fun σ w hE hold hk => ?_
          have h30 : σ 30 = .pointer (some ⟨b, off + i, none⟩) := hk.1
          have hcl := (Below.cell hE (p := ⟨b, off + i, none⟩) hbw).trans hcell1
          exact ⟨rfl, .int .u8 q, by go_simp, rfl⟩
        · refine chain_pure (by kernel_rfl) fun σ w hE hold hk => ?_
          have h31 : σ 31 = .int .u8 q := hk.1
          have hwq : IntKind.i64.wrap q = q := by rw [IntKind.wrap_i64]; omega
          exact ⟨rfl, .int .i64 q, by go_simp, rfl⟩
        · refine chain_pure (by kernel_rfl) fun σ w hE hold hk => ?_
          have h27 : σ 27 = .int .i64 q := hk.1
          have h32 : σ 32 = .int .i64 q := hk.2.1
          exact ⟨rfl, .bool false, by go_simp, rfl⟩
      case post =>
        intro σ w3 hE3 hT hL
        have h33 : σ 33 = .bool false := hL.2.2.2.2.2.2.2.1
        clear hL
        simp only [putAll, List.map_cons, List.map_nil, List.zip_cons_cons, List.zip_nil_right, List.foldl_cons, List.foldl_nil, Act.put, Option.getD_some, List.setIfInBounds_toArray, List.set_cons_zero, List.set_cons_succ]
        rw [h33]; clear h33
        go_wp2_with fail
        go_roundw
        case rel => exact ⟨i + 1, by omega, by go_num, hT, Below.trans hE0 hE3⟩
        case measure => simp [intOf]; omega
    · obtain rfl : i = xs.length := by omega
      have hR := HR.out
      rw [List.drop_length, List.nil_append] at hR
      have hz : ∀ x ∈ List.replicate p (0 : Int), 0 ≤ x ∧ x < 256 := by intro x hx; rw [List.eq_of_mem_replicate hx]; omega
      have HZ := Lib.hid hz
      have HR2 := Lib.hid hR
      clear HR hR hz
      go_wp2_with fail
      refine (RInt_calls g _ 0 wr HR2.out HZ.out).mono ?_
      have hF8 : readF 8 (List.replicate p 0) 0 = (0, List.replicate p 0, 3) := by rw [readF, if_neg (by decide), if_pos (by simp; omega)]
      have hF1 : readF 1 (List.replicate p 0) 3 = (0, List.replicate p 0, 3) := by rw [readF, if_pos (by decide)]
      rw [hF8]
      rintro e w5 ⟨rfl, hR, hG5⟩
      have HR5 := Lib.hid (show RdS _ w5 g (List.replicate p 0) 3 from hR)
      have HF1 := Lib.hid hF1
      clear hR hF8 hF1
      go_wp2_with fail
      refine (RByte_calls g _ 3 w5 HR5.out HZ.out).mono ?_
      rw [HF1.out]
      rintro e w6 ⟨rfl, hR, hG6⟩
      have HR6 := Lib.hid (show RdS _ w6 g (List.replicate p 0) 3 from hR)
      clear hR HF1
      go_wp2_with fail
      refine (REnd_calls g _ 3 w6 HR6.out).mono ?_
      rintro e w' ⟨rfl, rfl⟩
      have hend : endF (List.replicate p 0) 3 = 3 := by rw [endF, if_neg (by simp)]
      rw [hend]
      have Hfin := Lib.hid ((hE.grownBy hG5 hgw).grownBy hG6 hgw)
      clear hend hE hG5 hG6 HR2 HR5 HR6
      go_wp2_with fail
      go_ret
      exact ⟨rfl, Hfin.out⟩

theorem CodeLess_walk (vb : Value) (xs : List Int) (n : Int) (w : World) (hr : Rd w .u8 vb xs) (hxs : ∀ n ∈ xs, (Lit.int .u8 n).wf = true) (hn : (Lit.int .i64 n).wf = true) :
    Calls Try.prog 5 #[vb, .int .i64 n] w fun e w' => e = .returned (.bool true) ∧ Ext w w' := by
  rcases Nat.lt_or_ge 40 xs.length with h | h
  · exact CodeLess_large vb xs n w hr h
  · exact CodeLess_small vb xs n w hr h hxs hn
end Go.Proofs.Ytjonbihhalnleaa
