/-
  The walk of the law CodeReads.
-/
import Derived.Test.YtjonbihhalnleaaCodeQ
set_option linter.unusedSimpArgs false
set_option linter.unusedVariables false
namespace Go.Proofs.Ytjonbihhalnleaa
open Go.RowKit

theorem readF_sub (m : Nat) (xs : List Int) (er : Int) : ∀ q ∈ (readF m xs er).2.1, q ∈ xs := by
  intro q hq
  unfold readF at hq
  split at hq
  · exact hq
  · split at hq
    · exact hq
    · exact List.mem_of_mem_drop hq

theorem CodeReads_large (vb : Value) (xs : List Int) (va : Value) (zs : List Int) (w : World) (hr : Rd w .u8 vb xs) (hx : 100 < xs.length) :
    Calls Try.prog 8 #[vb, va] w fun e w' => e = .returned (.bool true) ∧ Ext w w' := by
  obtain ⟨Ab, cb, rfl⟩ := hr.shape
  clear hr
  go_enter Try.func8, Try.ntmps8
  go_wp2_with fail
  refine (known1_calls w).mono ?_
  rintro e w1 ⟨rfl, hE1⟩
  go_wp2_with fail
  go_ret
  exact ⟨rfl, hE1⟩

set_option maxHeartbeats 2000000 in
set_option maxRecDepth 100000 in
theorem CodeReads_small (vb : Value) (xs : List Int) (va : Value) (zs : List Int) (w : World) (hb : Rd w .u8 vb xs) (hx : xs.length ≤ 100) (hxs : ∀ n ∈ xs, (Lit.int .u8 n).wf = true) (hha : Rd w .i64 va zs) (haw : ∀ n ∈ zs, (Lit.int .i64 n).wf = true) :
    Calls Try.prog 8 #[vb, va] w fun e w' => e = .returned (.bool true) ∧ Ext w w' := by
  obtain ⟨Ab, cb, rfl⟩ := hb.shape
  obtain ⟨Aa, ca, rfl⟩ := hha.shape
  have hlena : zs.length ≤ maxLen := by obtain ⟨A, c, he, h1, h2, _⟩ := hha; omega
  unfold maxLen at hlena
  have hAb : ∀ ad, Ab = some ad → xs ≠ [] → ad.block < w.heap.size := by
    intro ad he hne
    obtain ⟨b, off, c, he', h1, h2, h3⟩ := Rd.pos hb (List.length_pos_iff.2 hne)
    injection he' with e1 e2 e3
    rw [e1] at he
    cases he
    exact World.block_lt_of_cell? w _ (h3 0 (List.length_pos_iff.2 hne))
  have Hb := Lib.hid hb
  have Ha := Lib.hid hha
  have Hxs := Lib.hid (bytes_range hxs)
  have Haw := Lib.hid haw
  have HAb := Lib.hid hAb
  clear hb hha hxs haw hAb
  go_enter Try.func8, Try.ntmps8
  go_wp2_with fail
  refine (known1_calls w).mono ?_
  rintro e w1 ⟨rfl, hE1⟩
  go_wp2_with (at_builtin; refine wpList_append_rd (w0 := w1) rfl _ _ 22 5 .u8 1 rfl Try.underlying22 infoU8 (by decide) (.slice (some ⟨w1.heap.size, 0, none⟩) 0 0) (.slice Ab xs.length cb) [] xs rfl rfl (World.ownsRow_lit (base := w1.heap.size) (e := 5) (size := 1) w1 #[] 0 (Nat.le_refl _) (Nat.zero_le _) rfl) ((Hb.out.ext hE1).ext ((Ext.refl _).alloc _)) ((Ext.refl w1).alloc _) (by simp; omega) ?_; intro vc w2 hOc hE2; have HO2 := Lib.hid hOc; clear hOc)
  refine (New_calls vc ([] ++ xs) w2 (by simp; omega) (ownsRow.reads HO2.out)).mono ?_
  rintro e w3 ⟨g, rfl, hR, hg, hgl, hE3⟩
  have HR := Lib.hid (show RdS (w2.heap.size ≤ ·) w3 g xs 0 from hR)
  have hE := ((hE1.trans hE2).trans hE3)
  have hgw : w.heap.size ≤ g := Nat.le_trans (Nat.le_trans hE1.size hE2.size) hg
  clear hR HO2 hE2 hE3 hg
  go_wp2_with fail
  refine (QNew_calls (p := (· < w.heap.size)) Ab xs.length cb xs w3 (by omega) (Hb.out.ext hE) rfl (fun ad e hne => ⟨Nat.lt_of_lt_of_le (HAb.out ad e hne) hE.size, HAb.out ad e hne⟩)).mono ?_
  rintro e w4 ⟨rfl, hX, hxl, hE4⟩
  obtain ⟨x, hxx⟩ : ∃ x, w3.heap.size = x := ⟨_, rfl⟩
  rw [hxx] at hX hgl hxl ⊢
  have HX := Lib.hid hX
  have HR4 := Lib.hid (HR.out.ext hE4)
  have hE5 := hE.trans hE4
  have hwx : w.heap.size ≤ x := hxx ▸ hE.size
  clear hxx hX HR hE hE4 hE1
  go_wp2_with fail
  go_loopw [7] (fun iv wr => ∃ i : Nat, i ≤ zs.length ∧ iv = .int .i64 i ∧ (∃ ys e, RdS (w2.heap.size ≤ ·) wr g ys e ∧ RfS (· < w.heap.size) wr x ys e ∧ (∀ q ∈ ys, 0 ≤ q ∧ q < 256)) ∧ Ext w wr) (fun iv wr => zs.length - (intOf iv).toNat)
  case atStart => exact ⟨0, Nat.zero_le _, rfl, ⟨xs, 0, HR4.out, HX.out, Hxs.out⟩, hE5⟩
  case round =>
    obtain ⟨i, hi, rfl, ⟨ys, er, hR, hX, hys⟩, hE⟩ := hrel
    clear HR4 HX hE5 hxl
    have HR := Lib.hid hR
    have HX := Lib.hid hX
    have Hys := Lib.hid hys
    clear hR hX hys
    by_cases hgo : i < zs.length ∧ i < 20
    · obtain ⟨hlt, hlt2⟩ := hgo
      obtain ⟨b, off, cap, he', hcap, hcapm, hcells⟩ := Rd.pos (Ha.out.ext hE) (by omega)
      injection he' with e1 e2 e3
      subst e1 e3
      unfold maxLen at hcapm
      have hcell := hcells i hlt
      have har := bounds_i64 (Haw.out (zs.getD i 0) (by rw [List.getD_eq_getElem?_getD, List.getElem?_eq_getElem hlt]; exact List.getElem_mem _))
      obtain ⟨a, haa⟩ : ∃ a, zs.getD i 0 = a := ⟨_, rfl⟩
      rw [haa] at hcell har
      have Har := Lib.hid har
      clear hcells haa har
      go_wp2_with fail
      refine (within_calls a 8 wr (by decide) (by decide) Har.out).mono ?_
      rintro e w' ⟨rfl, rfl⟩
      have hk : a % 8 = 0 ∨ a % 8 = 1 ∨ a % 8 = 2 ∨ a % 8 = 3 ∨ a % 8 = 4 ∨ a % 8 = 5 ∨ a % 8 = 6 ∨ a % 8 = 7 := by omega
      generalize a % 8 = k at hk ⊢
      rcases hk with rfl | rfl | rfl | rfl | rfl | rfl | rfl | rfl
      iterate 3
        · go_wp2_with fail
          refine (RInt_calls g ys er wr HR.out Hys.out).mono ?_
          rintro e w5 ⟨rfl, hR5, hG5⟩
          have HR5 := Lib.hid hR5
          have HX5 := Lib.hid (HX.out.apart hG5 (by omega) (fun b hb => by omega))
          have hE5 := hE.grownBy hG5 hgw
          clear hR5 hG5 hcell HR HX
          go_wp2_with fail
          refine (QInt_calls x ys er w5 HX5.out Hys.out).mono ?_
          rintro e w6 ⟨rfl, hX6, hG6⟩
          have HX6 := Lib.hid hX6
          have HR6 := Lib.hid (HR5.out.keep hG6 hgl)
          have hE6 := hE5.grownBy hG6 hwx
          clear hX6 hG6 hE5 HX5 HR5 hE
          obtain ⟨V, hV⟩ : ∃ V, IntKind.i64.wrap (readF 8 ys er).1 = V := ⟨_, rfl⟩
          rw [hV]
          clear hV
          go_wp2_with fail
          go_roundw
          case rel => exact ⟨i + 1, by omega, by go_num, ⟨_, _, HR6.out, HX6.out, fun q hq => Hys.out q (readF_sub _ _ _ q hq)⟩, hE6⟩
          case measure => simp [intOf]; omega
      iterate 4
        · go_wp2_with fail
          refine (RByte_calls g ys er wr HR.out Hys.out).mono ?_
          rintro e w5 ⟨rfl, hR5, hG5⟩
          have HR5 := Lib.hid hR5
          have HX5 := Lib.hid (HX.out.apart hG5 (by omega) (fun b hb => by omega))
          have hE5 := hE.grownBy hG5 hgw
          clear hR5 hG5 hcell HR HX
          go_wp2_with fail
          refine (QByte_calls x ys er w5 HX5.out Hys.out).mono ?_
          rintro e w6 ⟨rfl, hX6, hG6⟩
          have HX6 := Lib.hid hX6
          have HR6 := Lib.hid (HR5.out.keep hG6 hgl)
          have hE6 := hE5.grownBy hG6 hwx
          clear hX6 hG6 hE5 HX5 HR5 hE
          obtain ⟨V, hV⟩ : ∃ V, IntKind.i64.wrap (readF 1 ys er).1 = V := ⟨_, rfl⟩
          rw [hV]
          clear hV
          go_wp2_with fail
          go_roundw
          case rel => exact ⟨i + 1, by omega, by go_num, ⟨_, _, HR6.out, HX6.out, fun q hq => Hys.out q (readF_sub _ _ _ q hq)⟩, hE6⟩
          case measure => simp [intOf]; omega
      · obtain ⟨D, hD⟩ : ∃ D, wrap64 (a.tdiv 8) = D := ⟨_, rfl⟩
        have hDb : -9223372036854775808 ≤ D ∧ D ≤ 9223372036854775807 := by rw [← hD]; unfold wrap64; omega
        have HD := Lib.hid hD
        have HDb := Lib.hid hDb
        have hcell2 := Lib.hid hcell
        clear hD hDb
        go_wp2_with fail
        rw [HD.out]
        refine (within_calls D 12 wr (by decide) (by decide) HDb.out).mono ?_
        rintro e w' ⟨rfl, rfl⟩
        generalize hm : D % 12 = m
        have Hm := Lib.hid hm
        clear hm
        go_wp2_with fail
        refine (RFail_calls g ys er m wr HR.out).mono ?_
        rintro e w5 ⟨rfl, hR5, hG5⟩
        have HR5 := Lib.hid hR5
        have HX5 := Lib.hid (HX.out.apart hG5 (by omega) (fun b hb => by omega))
        have hE5 := hE.grownBy hG5 hgw
        have hcell5 := (Rd.at (Ha.out.ext hE5) i hlt)
        have hcell0 := (Rd.at (Ha.out.ext hE) i hlt)
        rw [hcell] at hcell0
        injection hcell0 with hcell0
        rw [← hcell0] at hcell5
        clear hR5 hG5 hcell HR HX hcell0
        go_wp2_with fail
        rw [HD.out]
        refine (within_calls D 12 w5 (by decide) (by decide) HDb.out).mono ?_
        rintro e w' ⟨rfl, rfl⟩
        rw [Hm.out]
        go_wp2_with fail
        refine (QFail_calls x ys er m w5 HX5.out).mono ?_
        rintro e w6 ⟨rfl, hX6, hG6⟩
        have HX6 := Lib.hid hX6
        have HR6 := Lib.hid (HR5.out.keep hG6 hgl)
        have hE6 := hE5.grownBy hG6 hwx
        clear hX6 hG6 hE5 HX5 HR5 hE hcell5
        go_wp2_with fail
        go_roundw
        case rel => exact ⟨i + 1, by omega, by go_num, ⟨_, _, HR6.out, HX6.out, Hys.out⟩, hE6⟩
        case measure => simp [intOf]; omega
    · by_cases hlt : i < zs.length
      · have hge : ¬ i < 20 := fun h => hgo ⟨hlt, h⟩
        clear hgo
        go_wp2_with fail
        refine (REnd_calls g ys er wr HR.out).mono ?_
        rintro e w5 ⟨rfl, rfl⟩
        go_wp2_with fail
        refine (QEnd_calls x ys er wr HX.out).mono ?_
        rintro e w6 ⟨rfl, hE6⟩
        have hfin := hE.trans hE6
        go_wp2_with fail
        go_ret
        exact ⟨rfl, hfin⟩
      · clear hgo
        go_wp2_with fail
        refine (REnd_calls g ys er wr HR.out).mono ?_
        rintro e w5 ⟨rfl, rfl⟩
        go_wp2_with fail
        refine (QEnd_calls x ys er wr HX.out).mono ?_
        rintro e w6 ⟨rfl, hE6⟩
        have hfin := hE.trans hE6
        go_wp2_with fail
        go_ret
        exact ⟨rfl, hfin⟩

theorem CodeReads_walk (vb : Value) (xs : List Int) (va : Value) (zs : List Int) (w : World) (hb : Rd w .u8 vb xs) (hxs : ∀ n ∈ xs, (Lit.int .u8 n).wf = true) (hha : Rd w .i64 va zs) (haw : ∀ n ∈ zs, (Lit.int .i64 n).wf = true) :
    Calls Try.prog 8 #[vb, va] w fun e w' => e = .returned (.bool true) ∧ Ext w w' := by
  rcases Nat.lt_or_ge 100 xs.length with h | h
  · exact CodeReads_large vb xs va zs w hb h
  · exact CodeReads_small vb xs va zs w hb h hxs hha haw
end Go.Proofs.Ytjonbihhalnleaa
