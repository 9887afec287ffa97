/-
  The walk of the law CodeWrites.
-/
import Derived.Test.YtjonbihhalnleaaCodeW
import Derived.Test.YtjonbihhalnleaaOp
set_option linter.unusedSimpArgs false
set_option linter.unusedVariables false
namespace Go.Proofs.Ytjonbihhalnleaa
open Go.RowKit

theorem mixed : Try.prog.follows .mixedOrders = true := by kernel_rfl

set_option maxHeartbeats 1000000 in
theorem CodeWrites_small (vb : Value) (xs : List Int) (n m : Int) (w : World) (hr : Rd w .u8 vb xs) (hx : xs.length ≤ 100) :
    Calls Try.prog 3 #[vb, .int .i64 n, .int .i64 m] w fun e w' => e = .returned (.bool true) ∧ Ext w w' := by
  obtain ⟨Ab, cb, rfl⟩ := hr.shape
  have hr := Lib.hid hr
  go_enter Try.func3, Try.ntmps3
  go_wp2_with fail
  refine (known1_calls w).mono ?_
  rintro e w1 ⟨rfl, hE1⟩
  go_wp2_with (at_builtin; go_must (refine wpList_append_rd (w0 := w1) rfl _ _ 22 5 .u8 1 rfl Try.underlying22 infoU8 (by decide) (.slice (some ⟨w1.heap.size, 0, none⟩) 0 0) (.slice Ab xs.length cb) [] xs rfl rfl (World.ownsRow_lit (base := w1.heap.size) (e := 5) (size := 1) w1 #[] 0 (Nat.le_refl _) (Nat.zero_le _) rfl) ((hr.out.ext hE1).ext ((Ext.refl _).alloc _)) ((Ext.refl w1).alloc _) (by simp; omega) ?_); intro vc w2 hOc hE2)
  have hrb := (hr.ext hE1).ext hE2
  have hrc : Rd w2 .u8 vc xs := ownsRow.reads hOc
  clear hr hOc
  refine wp_region_kinds mixed [(6,4),(8,6),(18,16),(20,18)] [2,4,6,8,14,16,18,20]
    [.pure (· = vc),
     .pure (· = .int .i64 n),
     .own w2.heap.size 5 .u8 (xs ++ leBytes 8 n),
     .pure (· = .string (strOfNums (xs ++ leBytes 8 n))),
     .own w2.heap.size 5 .u8 ([]),
     .pure (· = .slice Ab xs.length cb),
     .own w2.heap.size 5 .u8 (xs),
     .pure (· = .int .i64 n),
     .own w2.heap.size 5 .u8 (xs ++ leBytes 8 n),
     .pure (· = .string (strOfNums (xs ++ leBytes 8 n))),
     .pure (· = .bool true),
     .pure (· = .bool true),
     .pure (· = vc),
     .pure (· = .int .i64 m),
     .own w2.heap.size 5 .u8 (xs ++ leBytes 1 m),
     .pure (· = .string (strOfNums (xs ++ leBytes 1 m))),
     .own w2.heap.size 5 .u8 ([]),
     .pure (· = .slice Ab xs.length cb),
     .own w2.heap.size 5 .u8 (xs),
     .pure (· = .int .i64 m),
     .own w2.heap.size 5 .u8 (xs ++ leBytes 1 m),
     .pure (· = .string (strOfNums (xs ++ leBytes 1 m))),
     .pure (· = .bool true),
     .pure (· = .bool true),
     .pure (· = .bool true),
     .pure (· = vc),
     .pure (· = .string (strOfNums xs)),
     .pure (· = .slice Ab xs.length cb),
     .pure (· = .string (strOfNums xs)),
     .pure (· = .bool true),
     .pure (· = .bool true),
     .pure (· = .bool true)]
    (by kernel_rfl) (by kernel_rfl) (by kernel_rfl) ?steps ?post
  case steps =>
    refine ⟨?_, ?_, ?_, ?_, ?_, ?_, ?_, ?_, ?_, ?_, ?_, ?_, ?_, ?_, ?_, ?_, ?_, ?_, ?_, ?_, ?_, ?_, ?_, ?_, ?_, ?_, ?_, ?_, ?_, ?_, ?_, ?_, trivial⟩
    · refine sep_pure rfl fun σ w hE hold hk => ?_
      exact ⟨rfl, _, op_move rfl, hold 7 (by kernel_rfl)⟩
    · refine sep_pure rfl fun σ w hE hold hk => ?_
      exact ⟨rfl, _, op_move rfl, hold 1 (by kernel_rfl)⟩
    · refine sep_own rfl fun σ w hE hold hk => ?_
      have ha : σ 16 = vc := hk.1
      have hb : σ 17 = .int .i64 n := hk.2.1
      refine ⟨rfl, Does.call (op_call2 rfl Try.func11 (by kernel_rfl) (by kernel_rfl) ha hb) (Int_calls vc xs n w (by omega) (hrc.ext (Ext.of_drew hE))) ?_⟩
      rintro e w' ⟨v', rfl, hO, hE'⟩
      obtain ⟨h1, h2, h3⟩ := owes_new hE' hO w2.heap.size hE.size
      exact ⟨v', rfl, h1, h2, h3, ownsRow.base hO hE.size⟩
    · refine sep_pure rfl fun σ w hE hold hk => ?_
      have hO : Own w w2.heap.size 5 .u8 (σ 18) (xs ++ leBytes 8 n) := hk.1
      exact ⟨rfl, _, op_convert rfl (own_string Try.underlying22 Try.underlying5 Try.underlying9 hO), rfl⟩
    · refine sep_own rfl fun σ w hE hold hk => ?_
      refine ⟨rfl, Does.ok (w' := w.alloc (.cells #[] 5)) (v := .slice (some ⟨w.heap.size, 0, none⟩) 0 0) (op_lit0 rfl Try.underlying22 infoU8) ?_⟩
      have hO : Own (w.alloc (.cells #[] 5)) w.heap.size 5 .u8 (.slice (some ⟨w.heap.size, 0, none⟩) 0 0) [] := World.ownsRow_lit w #[] 0 (Nat.le_refl _) (Nat.zero_le _) rfl
      obtain ⟨h1, h2, h3⟩ := owes_new ((Ext.refl w).alloc _) hO w2.heap.size hE.size
      exact ⟨h1, h2, h3, ownsRow.base hO hE.size⟩
    · refine sep_pure rfl fun σ w hE hold hk => ?_
      exact ⟨rfl, _, op_move rfl, hold 0 (by kernel_rfl)⟩
    · refine sep_own rfl fun σ w hE hold hk => ?_
      have hO : Own w w2.heap.size 5 .u8 (σ 20) [] := hk.1
      have hb : σ 21 = .slice Ab xs.length cb := hk.2.1
      obtain ⟨v', w', hrun, hO', hG⟩ := run_append_num (P := Try.prog) w w2.heap.size 22 22 5 .u8 1 Try.underlying22 infoU8 (by decide) (σ 20) [] hO (.slice Ab xs.length cb) xs (hrb.ext (Ext.of_drew hE)) (by simp; omega) hE.size
      refine ⟨rfl, Does.ok (op_append rfl rfl hb hrun) ?_⟩
      obtain ⟨h1, h2, h3⟩ := owes_grew hG hO' hE.size (fun q hq => (hO.lt q hq).1)
      exact ⟨h1, h2, h3, hO'⟩
    · refine sep_pure rfl fun σ w hE hold hk => ?_
      exact ⟨rfl, _, op_move rfl, hold 1 (by kernel_rfl)⟩
    · refine sep_own rfl fun σ w hE hold hk => ?_
      have hO : Own w w2.heap.size 5 .u8 (σ 22) xs := hk.1
      have hb : σ 23 = .int .i64 n := hk.2.1
      refine ⟨rfl, Does.call (op_call2 rfl Try.func12 (by kernel_rfl) (by kernel_rfl) (v0 := σ 22) rfl hb) (refInt_calls (σ 22) xs n w w2.heap.size hE.size (by omega) hO) ?_⟩
      rintro e w' ⟨v', rfl, hO', hG⟩
      obtain ⟨h1, h2, h3⟩ := owes_grew hG hO' hE.size (fun q hq => (hO.lt q hq).1)
      exact ⟨v', rfl, h1, h2, h3, hO'⟩
    · refine sep_pure rfl fun σ w hE hold hk => ?_
      have hO : Own w w2.heap.size 5 .u8 (σ 24) (xs ++ leBytes 8 n) := hk.1
      exact ⟨rfl, _, op_convert rfl (own_string Try.underlying22 Try.underlying5 Try.underlying9 hO), rfl⟩
    · refine sep_pure rfl fun σ w hE hold hk => ?_
      have ha : σ 19 = .string (strOfNums (xs ++ leBytes 8 n)) := hk.1
      have hb : σ 25 = .string (strOfNums (xs ++ leBytes 8 n)) := hk.2.1
      exact ⟨rfl, _, op_binOp rfl (eql_string Try.underlying9 ha hb), by show Value.bool _ = _; simp⟩
    · refine sep_pure rfl fun σ w hE hold hk => ?_
      have h : σ 26 = .bool true := hk.1
      exact ⟨rfl, _, op_move rfl, h⟩
    · refine sep_pure rfl fun σ w hE hold hk => ?_
      have hg : σ 27 = .bool true := hk.1
      exact ⟨(by show (asB (σ 27) == some true) = true; rw [hg]; rfl), _, op_move rfl, hold 7 (by kernel_rfl)⟩
    · refine sep_pure rfl fun σ w hE hold hk => ?_
      have hg : σ 27 = .bool true := hk.1
      exact ⟨(by show (asB (σ 27) == some true) = true; rw [hg]; rfl), _, op_move rfl, hold 2 (by kernel_rfl)⟩
    · refine sep_own rfl fun σ w hE hold hk => ?_
      have hg : σ 27 = .bool true := hk.2.2.2.1
      have ha : σ 28 = vc := hk.1
      have hb : σ 29 = .int .i64 m := hk.2.1
      refine ⟨(by show (asB (σ 27) == some true) = true; rw [hg]; rfl), Does.call (op_call2 rfl Try.func13 (by kernel_rfl) (by kernel_rfl) ha hb) (Byte_calls vc xs m w (by omega) (hrc.ext (Ext.of_drew hE))) ?_⟩
      rintro e w' ⟨v', rfl, hO, hE'⟩
      obtain ⟨h1, h2, h3⟩ := owes_new hE' hO w2.heap.size hE.size
      exact ⟨v', rfl, h1, h2, h3, ownsRow.base hO hE.size⟩
    · refine sep_pure rfl fun σ w hE hold hk => ?_
      have hg : σ 27 = .bool true := hk.2.1
      have hO : Own w w2.heap.size 5 .u8 (σ 30) (xs ++ leBytes 1 m) := hk.1
      exact ⟨(by show (asB (σ 27) == some true) = true; rw [hg]; rfl), _, op_convert rfl (own_string Try.underlying22 Try.underlying5 Try.underlying9 hO), rfl⟩
    · refine sep_own rfl fun σ w hE hold hk => ?_
      have hg : σ 27 = .bool true := hk.1
      refine ⟨(by show (asB (σ 27) == some true) = true; rw [hg]; rfl), Does.ok (w' := w.alloc (.cells #[] 5)) (v := .slice (some ⟨w.heap.size, 0, none⟩) 0 0) (op_lit0 rfl Try.underlying22 infoU8) ?_⟩
      have hO : Own (w.alloc (.cells #[] 5)) w.heap.size 5 .u8 (.slice (some ⟨w.heap.size, 0, none⟩) 0 0) [] := World.ownsRow_lit w #[] 0 (Nat.le_refl _) (Nat.zero_le _) rfl
      obtain ⟨h1, h2, h3⟩ := owes_new ((Ext.refl w).alloc _) hO w2.heap.size hE.size
      exact ⟨h1, h2, h3, ownsRow.base hO hE.size⟩
    · refine sep_pure rfl fun σ w hE hold hk => ?_
      have hg : σ 27 = .bool true := hk.1
      exact ⟨(by show (asB (σ 27) == some true) = true; rw [hg]; rfl), _, op_move rfl, hold 0 (by kernel_rfl)⟩
    · refine sep_own rfl fun σ w hE hold hk => ?_
      have hg : σ 27 = .bool true := hk.2.2.2.1
      have hO : Own w w2.heap.size 5 .u8 (σ 32) [] := hk.1
      have hb : σ 33 = .slice Ab xs.length cb := hk.2.1
      obtain ⟨v', w', hrun, hO', hG⟩ := run_append_num (P := Try.prog) w w2.heap.size 22 22 5 .u8 1 Try.underlying22 infoU8 (by decide) (σ 32) [] hO (.slice Ab xs.length cb) xs (hrb.ext (Ext.of_drew hE)) (by simp; omega) hE.size
      refine ⟨(by show (asB (σ 27) == some true) = true; rw [hg]; rfl), Does.ok (op_append rfl rfl hb hrun) ?_⟩
      obtain ⟨h1, h2, h3⟩ := owes_grew hG hO' hE.size (fun q hq => (hO.lt q hq).1)
      exact ⟨h1, h2, h3, hO'⟩
    · refine sep_pure rfl fun σ w hE hold hk => ?_
      have hg : σ 27 = .bool true := hk.1
      exact ⟨(by show (asB (σ 27) == some true) = true; rw [hg]; rfl), _, op_move rfl, hold 2 (by kernel_rfl)⟩
    · refine sep_own rfl fun σ w hE hold hk => ?_
      have hg : σ 27 = .bool true := hk.2.2.2.1
      have hO : Own w w2.heap.size 5 .u8 (σ 34) xs := hk.1
      have hb : σ 35 = .int .i64 m := hk.2.1
      refine ⟨(by show (asB (σ 27) == some true) = true; rw [hg]; rfl), Does.call (op_call2 rfl Try.func14 (by kernel_rfl) (by kernel_rfl) (v0 := σ 34) rfl hb) (refByte_calls (σ 34) xs m w w2.heap.size hE.size (by omega) hO) ?_⟩
      rintro e w' ⟨v', rfl, hO', hG⟩
      obtain ⟨h1, h2, h3⟩ := owes_grew hG hO' hE.size (fun q hq => (hO.lt q hq).1)
      exact ⟨v', rfl, h1, h2, h3, hO'⟩
    · refine sep_pure rfl fun σ w hE hold hk => ?_
      have hg : σ 27 = .bool true := hk.2.1
      have hO : Own w w2.heap.size 5 .u8 (σ 36) (xs ++ leBytes 1 m) := hk.1
      exact ⟨(by show (asB (σ 27) == some true) = true; rw [hg]; rfl), _, op_convert rfl (own_string Try.underlying22 Try.underlying5 Try.underlying9 hO), rfl⟩
    · refine sep_pure rfl fun σ w hE hold hk => ?_
      have hg : σ 27 = .bool true := hk.2.2.1
      have ha : σ 31 = .string (strOfNums (xs ++ leBytes 1 m)) := hk.1
      have hb : σ 37 = .string (strOfNums (xs ++ leBytes 1 m)) := hk.2.1
      exact ⟨(by show (asB (σ 27) == some true) = true; rw [hg]; rfl), _, op_binOp rfl (eql_string Try.underlying9 ha hb), by show Value.bool _ = _; simp⟩
    · refine sep_pure rfl fun σ w hE hold hk => ?_
      have h : σ 27 = .bool true := hk.1
      have h2 : σ 38 = .bool true := hk.2.1
      exact ⟨rfl, _, op_pick rfl h, h2⟩
    · refine sep_pure rfl fun σ w hE hold hk => ?_
      have h : σ 39 = .bool true := hk.1
      exact ⟨rfl, _, op_move rfl, h⟩
    · refine sep_pure rfl fun σ w hE hold hk => ?_
      have hg : σ 40 = .bool true := hk.1
      exact ⟨(by show (asB (σ 40) == some true) = true; rw [hg]; rfl), _, op_move rfl, hold 7 (by kernel_rfl)⟩
    · refine sep_pure rfl fun σ w hE hold hk => ?_
      have hg : σ 40 = .bool true := hk.2.1
      have h : σ 41 = vc := hk.1
      exact ⟨(by show (asB (σ 40) == some true) = true; rw [hg]; rfl), _, op_convert rfl (by show (convert _ _ (σ 41)).run _ _ = _; rw [h]; exact rd_string Try.underlying22 Try.underlying5 Try.underlying9 (hrc.ext (Ext.of_drew hE))), rfl⟩
    · refine sep_pure rfl fun σ w hE hold hk => ?_
      have hg : σ 40 = .bool true := hk.1
      exact ⟨(by show (asB (σ 40) == some true) = true; rw [hg]; rfl), _, op_move rfl, hold 0 (by kernel_rfl)⟩
    · refine sep_pure rfl fun σ w hE hold hk => ?_
      have hg : σ 40 = .bool true := hk.2.1
      have h : σ 43 = .slice Ab xs.length cb := hk.1
      exact ⟨(by show (asB (σ 40) == some true) = true; rw [hg]; rfl), _, op_convert rfl (by show (convert _ _ (σ 43)).run _ _ = _; rw [h]; exact rd_string Try.underlying22 Try.underlying5 Try.underlying9 (hrb.ext (Ext.of_drew hE))), rfl⟩
    · refine sep_pure rfl fun σ w hE hold hk => ?_
      have hg : σ 40 = .bool true := hk.2.2.1
      have ha : σ 42 = .string (strOfNums xs) := hk.1
      have hb : σ 44 = .string (strOfNums xs) := hk.2.1
      exact ⟨(by show (asB (σ 40) == some true) = true; rw [hg]; rfl), _, op_binOp rfl (eql_string Try.underlying9 ha hb), by show Value.bool _ = _; simp⟩
    · refine sep_pure rfl fun σ w hE hold hk => ?_
      have h : σ 40 = .bool true := hk.1
      have h2 : σ 45 = .bool true := hk.2.1
      exact ⟨rfl, _, op_pick rfl h, h2⟩
    · refine sep_pure rfl fun σ w hE hold hk => ?_
      have h : σ 46 = .bool true := hk.1
      exact ⟨rfl, _, op_assign rfl, h⟩
  case post =>
    intro σ w3 hE3 hL
    have h6 : σ 6 = .bool true := hL.2.2.2.2.2.2.2.2.2.2.2.2.2.2.2.2.2.2.2.2.2.2.2.2.2.2.2.2.2.2.2.1
    clear hL
    simp only [putAll, List.map_cons, List.map_nil, List.zip_cons_cons, List.zip_nil_right, List.foldl_cons, List.foldl_nil, Act.put, Option.getD_some, List.setIfInBounds_toArray, List.set_cons_zero, List.set_cons_succ]
    rw [h6]
    go_wp2_with fail
    go_ret
    exact ⟨rfl, ((hE1.trans hE2).trans hE3)⟩

theorem CodeWrites_large (vb : Value) (xs : List Int) (n m : Int) (w : World) (hr : Rd w .u8 vb xs) (hx : 100 < xs.length) :
    Calls Try.prog 3 #[vb, .int .i64 n, .int .i64 m] w fun e w' => e = .returned (.bool true) ∧ Ext w w' := by
  obtain ⟨Ab, cb, rfl⟩ := hr.shape
  clear hr
  go_enter Try.func3, Try.ntmps3
  go_wp2_with fail
  refine (known1_calls w).mono ?_
  rintro e w1 ⟨rfl, hE1⟩
  go_wp2_with fail
  go_ret
  exact ⟨rfl, hE1⟩

theorem CodeWrites_walk (vb : Value) (xs : List Int) (n m : Int) (w : World) (hr : Rd w .u8 vb xs) (_ : ∀ n ∈ xs, (Lit.int .u8 n).wf = true) (_ : (Lit.int .i64 n).wf = true) (_ : (Lit.int .i64 m).wf = true) :
    Calls Try.prog 3 #[vb, .int .i64 n, .int .i64 m] w fun e w' => e = .returned (.bool true) ∧ Ext w w' := by
  rcases Nat.lt_or_ge 100 xs.length with h | h
  · exact CodeWrites_large vb xs n m w hr h
  · exact CodeWrites_small vb xs n m w hr h
end Go.Proofs.Ytjonbihhalnleaa
