/-
  The walk of the law CodeOrder.
-/
import Derived.Test.YtjonbihhalnleaaCodeWrites
set_option linter.unusedSimpArgs false
set_option linter.unusedVariables false
namespace Go.Proofs.Ytjonbihhalnleaa
open Go.RowKit
attribute [local go_sem] slotEval

set_option maxRecDepth 100000 in
set_option maxHeartbeats 4000000 in
theorem CodeOrder_walk (vns : Value) (ns : List Int) (m : Int) (w : World) (hns : Rd w .i64 vns ns) (hwf : ∀ n ∈ ns, (Lit.int .i64 n).wf = true) (_ : (Lit.int .i64 m).wf = true) :
    Calls Try.prog 4 #[vns, .int .i64 m] w fun e w' => e = .returned (.bool true) ∧ Ext w w' := by
  obtain ⟨An, cn, rfl⟩ := hns.shape
  have hlen : ns.length ≤ maxLen := by obtain ⟨A, c, he, h1, h2, _⟩ := hns; omega
  unfold maxLen at hlen
  have hns := Lib.hid hns
  clear hwf
  go_enter Try.func4, Try.ntmps4
  go_wp2_with fail
  refine (known1_calls w).mono ?_
  rintro e w1 ⟨rfl, hE1⟩
  go_wp2_with fail
  go_loopw [5, 6] (fun bv iv wr => ∃ (i : Nat) (ys : List Int), i ≤ ns.length ∧ i ≤ 20 ∧ iv = .int .i64 i ∧ ys.length = 9 * i ∧ Own wr w.heap.size 5 .u8 bv ys ∧ Ext w wr) (fun bv iv wr => ns.length - (intOf iv).toNat)
  case atStart => exact ⟨0, [], Nat.zero_le _, Nat.zero_le _, rfl, rfl, own_nil _ _ _ _, hE1⟩
  case round =>
    obtain ⟨i, ys, hi, hi20, rfl, hyl, hO, hE⟩ := hrel
    obtain ⟨Ab, cb, rfl⟩ := ownsRow.shape hO
    have HO := Lib.hid hO
    have Hyl := Lib.hid hyl
    have hyb : ys.length ≤ 180 := by omega
    clear hyl hO
    by_cases hlt : i < ns.length
    · by_cases hlt2 : i < 20
      · obtain ⟨b, off, cap, he, hcap, hcapm, hcells⟩ := Rd.pos (hns.out.ext hE) (by omega)
        cases he
        have hcell := hcells i hlt
        clear hcells
        obtain ⟨q, hq⟩ : ∃ q, ns.getD i 0 = q := ⟨_, rfl⟩
        rw [hq] at hcell
        clear hq
        go_wp2_with fail
        refine (Int_calls _ ys q wr (by omega) (ownsRow.reads HO.out)).mono ?_
        rintro e wa ⟨va, rfl, hOa, hEa⟩
        have hra := Lib.hid (ownsRow.reads hOa)
        clear hOa
        go_wp2_with fail
        refine (Byte_calls va (ys ++ leBytes 8 q) m wa (by rw [List.length_append, leBytes_length]; omega) hra.out).mono ?_
        rintro e w2 ⟨vc, rfl, hOc, hEc⟩
        rw [List.append_assoc] at hOc
        have hlc : (ys ++ (leBytes 8 q ++ leBytes 1 m)).length = ys.length + 9 := by simp [leBytes_length]
        obtain ⟨g, cc, rfl, hcc, hccm, _, hcl⟩ := Own.pos hOc (by rw [hlc]; omega)
        rw [hlc] at hcc
        unfold maxLen at hccm
        have hys : Rd w2 .u8 (.slice Ab ys.length cb) ys := ((ownsRow.reads HO.out).ext hEa).ext hEc
        have hfront : Rd w2 .u8 (.slice (some ⟨g, 0, none⟩) ys.length cc) ys := rd_left (ownsRow.reads hOc)
        have hback : Rd w2 .u8 (.slice (some ⟨g, ys.length, none⟩) 9 (cc - ys.length)) (leBytes 8 q ++ leBytes 1 m) := by
          have h := rd_right (ownsRow.reads hOc)
          rwa [Nat.zero_add, List.length_append, leBytes_length, leBytes_length] at h
        have hcell2 := hEc.cell (hEa.cell hcell)
        have HOc := Lib.hid hOc
        have Hcl := Lib.hid hcl
        clear hOc hcl
        simp only [hlc]
        clear hlc
        go_wp2_with fail
        clear hcell
        refine wp_region_kinds mixed [(28, 26)] [26, 28]
            [.pure (· = .slice (some ⟨g, 0, none⟩) (ys.length + 9) cc),
             .pure (· = .int .i64 (ys.length + 9)),
             .pure (· = .slice Ab ys.length cb),
             .pure (· = .int .i64 ys.length),
             .pure (· = .int .i64 (ys.length + 9)),
             .pure (· = .bool false),
             .pure (· = .bool false),
             .pure (· = .slice (some ⟨g, 0, none⟩) (ys.length + 9) cc),
             .pure (· = .slice Ab ys.length cb),
             .pure (· = .int .i64 ys.length),
             .pure (· = .slice (some ⟨g, 0, none⟩) ys.length cc),
             .pure (· = .string (strOfNums ys)),
             .pure (· = .slice Ab ys.length cb),
             .pure (· = .string (strOfNums ys)),
             .pure (· = .bool false),
             .pure (· = .bool false),
             .pure (· = .bool false),
             .pure (· = .slice (some ⟨g, 0, none⟩) (ys.length + 9) cc),
             .pure (· = .slice Ab ys.length cb),
             .pure (· = .int .i64 ys.length),
             .pure (· = .slice (some ⟨g, ys.length, none⟩) 9 (cc - ys.length)),
             .pure (· = .string (strOfNums (leBytes 8 q ++ leBytes 1 m))),
             .pure (· = .slice (some ⟨b, off, none⟩) ns.length cn),
             .pure (· = .int .i64 i),
             .pure (· = .pointer (some ⟨b, off + i, none⟩)),
             .pure (· = .int .i64 q),
             .own w2.heap.size 5 .u8 (leBytes 8 q),
             .pure (· = .int .i64 m),
             .own w2.heap.size 5 .u8 ((leBytes 8 q ++ leBytes 1 m)),
             .pure (· = .string (strOfNums (leBytes 8 q ++ leBytes 1 m))),
             .pure (· = .bool false),
             .pure (· = .bool false)]
            (by kernel_rfl) (by kernel_rfl) (by kernel_rfl) ?steps ?post
        case steps =>
          refine ⟨?_, ?_, ?_, ?_, ?_, ?_, ?_, ?_, ?_, ?_, ?_, ?_, ?_, ?_, ?_, ?_, ?_, ?_, ?_, ?_, ?_, ?_, ?_, ?_, ?_, ?_, ?_, ?_, ?_, ?_, ?_, ?_, trivial⟩
          · refine sep_pure rfl fun σ w hE hold hk => ?_
            have h7 : σ 7 = .slice (some ⟨g, 0, none⟩) (ys.length + 9) cc := hold 7 (by kernel_rfl)
            exact ⟨rfl, _, op_move rfl, h7⟩
          · refine sep_pure rfl fun σ w hE hold hk => ?_
            have h28 : σ 28 = .slice (some ⟨g, 0, none⟩) (ys.length + 9) cc := hk.1
            exact ⟨rfl, .int .i64 (ys.length + 9), by go_simp, rfl⟩
          · refine sep_pure rfl fun σ w hE hold hk => ?_
            have h5 : σ 5 = .slice Ab ys.length cb := hold 5 (by kernel_rfl)
            exact ⟨rfl, _, op_move rfl, h5⟩
          · refine sep_pure rfl fun σ w hE hold hk => ?_
            have h30 : σ 30 = .slice Ab ys.length cb := hk.1
            exact ⟨rfl, .int .i64 ys.length, by go_simp, rfl⟩
          · refine sep_pure rfl fun σ w hE hold hk => ?_
            have h31 : σ 31 = .int .i64 ys.length := hk.1
            have hx : IntKind.i64.wrap ((ys.length : Int) + 9) = ys.length + 9 := IntWalk.i64_in _ (by omega)
            exact ⟨rfl, .int .i64 (ys.length + 9), by go_simp, rfl⟩
          · refine sep_pure rfl fun σ w hE hold hk => ?_
            have h29 : σ 29 = .int .i64 (ys.length + 9) := hk.1
            have h32 : σ 32 = .int .i64 (ys.length + 9) := hk.2.1
            exact ⟨rfl, .bool false, by go_simp, rfl⟩
          · refine sep_pure rfl fun σ w hE hold hk => ?_
            have h33 : σ 33 = .bool false := hk.1
            exact ⟨rfl, _, op_move rfl, h33⟩
          · refine sep_pure rfl fun σ w hE hold hk => ?_
            have h34 : σ 34 = .bool false := hk.1
            have h7 : σ 7 = .slice (some ⟨g, 0, none⟩) (ys.length + 9) cc := hold 7 (by kernel_rfl)
            exact ⟨(by show (asB (σ 34) == some false) = true; rw [h34]; rfl), _, op_move rfl, h7⟩
          · refine sep_pure rfl fun σ w hE hold hk => ?_
            have h34 : σ 34 = .bool false := hk.1
            have h5 : σ 5 = .slice Ab ys.length cb := hold 5 (by kernel_rfl)
            exact ⟨(by show (asB (σ 34) == some false) = true; rw [h34]; rfl), _, op_move rfl, h5⟩
          · refine sep_pure rfl fun σ w hE hold hk => ?_
            have h36 : σ 36 = .slice Ab ys.length cb := hk.1
            have h34 : σ 34 = .bool false := hk.2.1
            exact ⟨(by show (asB (σ 34) == some false) = true; rw [h34]; rfl), .int .i64 ys.length, by go_simp, rfl⟩
          · refine sep_pure rfl fun σ w hE hold hk => ?_
            have h35 : σ 35 = .slice (some ⟨g, 0, none⟩) (ys.length + 9) cc := hk.1
            have h37 : σ 37 = .int .i64 ys.length := hk.2.1
            have h34 : σ 34 = .bool false := hk.2.2.1
            have hx : ¬ cc < ys.length := by omega
            exact ⟨(by show (asB (σ 34) == some false) = true; rw [h34]; rfl), .slice (some ⟨g, 0, none⟩) ys.length cc, by go_simp, rfl⟩
          · refine sep_pure rfl fun σ w hE hold hk => ?_
            have h38 : σ 38 = .slice (some ⟨g, 0, none⟩) ys.length cc := hk.1
            have h34 : σ 34 = .bool false := hk.2.1
            exact ⟨(by show (asB (σ 34) == some false) = true; rw [h34]; rfl), _, op_convert rfl (by show (convert _ _ (σ 38)).run _ _ = _; rw [h38]; exact rd_string Try.underlying22 Try.underlying5 Try.underlying9 (hfront.ext (Ext.of_drew hE))), rfl⟩
          · refine sep_pure rfl fun σ w hE hold hk => ?_
            have h34 : σ 34 = .bool false := hk.1
            have h5 : σ 5 = .slice Ab ys.length cb := hold 5 (by kernel_rfl)
            exact ⟨(by show (asB (σ 34) == some false) = true; rw [h34]; rfl), _, op_move rfl, h5⟩
          · refine sep_pure rfl fun σ w hE hold hk => ?_
            have h40 : σ 40 = .slice Ab ys.length cb := hk.1
            have h34 : σ 34 = .bool false := hk.2.1
            exact ⟨(by show (asB (σ 34) == some false) = true; rw [h34]; rfl), _, op_convert rfl (by show (convert _ _ (σ 40)).run _ _ = _; rw [h40]; exact rd_string Try.underlying22 Try.underlying5 Try.underlying9 (hys.ext (Ext.of_drew hE))), rfl⟩
          · refine sep_pure rfl fun σ w hE hold hk => ?_
            have h39 : σ 39 = .string (strOfNums ys) := hk.1
            have h41 : σ 41 = .string (strOfNums ys) := hk.2.1
            have h34 : σ 34 = .bool false := hk.2.2.1
            exact ⟨(by show (asB (σ 34) == some false) = true; rw [h34]; rfl), .bool false, by go_simp, rfl⟩
          · refine sep_pure rfl fun σ w hE hold hk => ?_
            have h34 : σ 34 = .bool false := hk.1
            have h42 : σ 42 = .bool false := hk.2.1
            exact ⟨rfl, .bool false, by go_simp, rfl⟩
          · refine sep_pure rfl fun σ w hE hold hk => ?_
            have h43 : σ 43 = .bool false := hk.1
            exact ⟨rfl, _, op_move rfl, h43⟩
          · refine sep_pure rfl fun σ w hE hold hk => ?_
            have h44 : σ 44 = .bool false := hk.1
            have h7 : σ 7 = .slice (some ⟨g, 0, none⟩) (ys.length + 9) cc := hold 7 (by kernel_rfl)
            exact ⟨(by show (asB (σ 44) == some false) = true; rw [h44]; rfl), _, op_move rfl, h7⟩
          · refine sep_pure rfl fun σ w hE hold hk => ?_
            have h44 : σ 44 = .bool false := hk.1
            have h5 : σ 5 = .slice Ab ys.length cb := hold 5 (by kernel_rfl)
            exact ⟨(by show (asB (σ 44) == some false) = true; rw [h44]; rfl), _, op_move rfl, h5⟩
          · refine sep_pure rfl fun σ w hE hold hk => ?_
            have h46 : σ 46 = .slice Ab ys.length cb := hk.1
            have h44 : σ 44 = .bool false := hk.2.1
            exact ⟨(by show (asB (σ 44) == some false) = true; rw [h44]; rfl), .int .i64 ys.length, by go_simp, rfl⟩
          · refine sep_pure rfl fun σ w hE hold hk => ?_
            have h45 : σ 45 = .slice (some ⟨g, 0, none⟩) (ys.length + 9) cc := hk.1
            have h47 : σ 47 = .int .i64 ys.length := hk.2.1
            have h44 : σ 44 = .bool false := hk.2.2.1
            have hx : ¬ cc = ys.length := by omega
            have hx2 : (ys.length : Int) ≤ ys.length + 9 := by omega
            exact ⟨(by show (asB (σ 44) == some false) = true; rw [h44]; rfl), .slice (some ⟨g, ys.length, none⟩) 9 (cc - ys.length), by go_simp, rfl⟩
          · refine sep_pure rfl fun σ w hE hold hk => ?_
            have h48 : σ 48 = .slice (some ⟨g, ys.length, none⟩) 9 (cc - ys.length) := hk.1
            have h44 : σ 44 = .bool false := hk.2.1
            exact ⟨(by show (asB (σ 44) == some false) = true; rw [h44]; rfl), _, op_convert rfl (by show (convert _ _ (σ 48)).run _ _ = _; rw [h48]; exact rd_string Try.underlying22 Try.underlying5 Try.underlying9 (hback.ext (Ext.of_drew hE))), rfl⟩
          · refine sep_pure rfl fun σ w hE hold hk => ?_
            have h44 : σ 44 = .bool false := hk.1
            have h0 : σ 0 = .slice (some ⟨b, off, none⟩) ns.length cn := hold 0 (by kernel_rfl)
            exact ⟨(by show (asB (σ 44) == some false) = true; rw [h44]; rfl), _, op_move rfl, h0⟩
          · refine sep_pure rfl fun σ w hE hold hk => ?_
            have h44 : σ 44 = .bool false := hk.1
            have h6 : σ 6 = .int .i64 i := hold 6 (by kernel_rfl)
            exact ⟨(by show (asB (σ 44) == some false) = true; rw [h44]; rfl), _, op_move rfl, h6⟩
          · refine sep_pure rfl fun σ w hE hold hk => ?_
            have h50 : σ 50 = .slice (some ⟨b, off, none⟩) ns.length cn := hk.1
            have h51 : σ 51 = .int .i64 i := hk.2.1
            have h44 : σ 44 = .bool false := hk.2.2.1
            exact ⟨(by show (asB (σ 44) == some false) = true; rw [h44]; rfl), .pointer (some ⟨b, off + i, none⟩), by go_simp, rfl⟩
          · refine sep_pure rfl fun σ w hE hold hk => ?_
            have h52 : σ 52 = .pointer (some ⟨b, off + i, none⟩) := hk.1
            have h44 : σ 44 = .bool false := hk.2.1
            have hcl := (Ext.of_drew hE).cell hcell2
            exact ⟨(by show (asB (σ 44) == some false) = true; rw [h44]; rfl), .int .i64 q, by go_simp, rfl⟩
          · refine sep_own rfl fun σ w hE hold hk => ?_
            have h53 : σ 53 = .int .i64 q := hk.1
            have h44 : σ 44 = .bool false := hk.2.1
            refine ⟨(by show (asB (σ 44) == some false) = true; rw [h44]; rfl), Does.call (op_call2 rfl Try.func12 (by kernel_rfl) (by kernel_rfl) (rfl) h53) (refInt_calls (.slice none 0 0) [] q w w2.heap.size hE.size (by decide) (own_nil _ _ _ _)) ?_⟩
            rintro e w' ⟨v', rfl, hO', hG⟩
            obtain ⟨q1, q2, q3⟩ := owes_grew hG hO' hE.size (fun q hq => by cases hq)
            exact ⟨v', rfl, q1, q2, q3, ownsRow.base hO' (by first | exact hE.size | exact Nat.le_refl _)⟩
          · refine sep_pure rfl fun σ w hE hold hk => ?_
            have h44 : σ 44 = .bool false := hk.1
            have h1 : σ 1 = .int .i64 m := hold 1 (by kernel_rfl)
            exact ⟨(by show (asB (σ 44) == some false) = true; rw [h44]; rfl), _, op_move rfl, h1⟩
          · refine sep_own rfl fun σ w hE hold hk => ?_
            have h54 : Own w w2.heap.size 5 .u8 (σ 54) (leBytes 8 q) := hk.1
            have h55 : σ 55 = .int .i64 m := hk.2.1
            have h44 : σ 44 = .bool false := hk.2.2.2.1
            refine ⟨(by show (asB (σ 44) == some false) = true; rw [h44]; rfl), Does.call (op_call2 rfl Try.func14 (by kernel_rfl) (by kernel_rfl) (rfl) h55) (refByte_calls (σ 54) (leBytes 8 q) m w w2.heap.size hE.size (by rw [leBytes_length]; decide) h54) ?_⟩
            rintro e w' ⟨v', rfl, hO', hG⟩
            obtain ⟨q1, q2, q3⟩ := owes_grew hG hO' hE.size (fun q hq => (h54.lt q hq).1)
            exact ⟨v', rfl, q1, q2, q3, hO'⟩
          · refine sep_pure rfl fun σ w hE hold hk => ?_
            have h56 : Own w w2.heap.size 5 .u8 (σ 56) ((leBytes 8 q ++ leBytes 1 m)) := hk.1
            have h44 : σ 44 = .bool false := hk.2.1
            exact ⟨(by show (asB (σ 44) == some false) = true; rw [h44]; rfl), _, op_convert rfl (own_string Try.underlying22 Try.underlying5 Try.underlying9 h56), rfl⟩
          · refine sep_pure rfl fun σ w hE hold hk => ?_
            have h49 : σ 49 = .string (strOfNums (leBytes 8 q ++ leBytes 1 m)) := hk.1
            have h57 : σ 57 = .string (strOfNums (leBytes 8 q ++ leBytes 1 m)) := hk.2.1
            have h44 : σ 44 = .bool false := hk.2.2.1
            exact ⟨(by show (asB (σ 44) == some false) = true; rw [h44]; rfl), .bool false, by go_simp, rfl⟩
          · refine sep_pure rfl fun σ w hE hold hk => ?_
            have h44 : σ 44 = .bool false := hk.1
            have h58 : σ 58 = .bool false := hk.2.1
            exact ⟨rfl, .bool false, by go_simp, rfl⟩
        case post =>
          intro σ w3 hE3 hL
          have h59 : σ 59 = .bool false := hL.2.2.2.2.2.2.2.2.2.2.2.2.2.2.2.2.2.2.2.2.2.2.2.2.2.2.2.2.2.2.2.1
          clear hL
          simp only [putAll, List.map_cons, List.map_nil, List.zip_cons_cons, List.zip_nil_right, List.foldl_cons, List.foldl_nil, Act.put, Option.getD_some, List.setIfInBounds_toArray, List.set_cons_zero, List.set_cons_succ]
          rw [h59]; clear h59
          go_wp2_with fail
          go_roundw
          case rel => exact ⟨i + 1, ys ++ (leBytes 8 q ++ leBytes 1 m), by omega, by omega, by go_num, by rw [List.length_append, List.length_append, leBytes_length, leBytes_length, Hyl.out]; omega, Own.len (ownsRow.base (ownsRow.ext HOc.out hE3) (Nat.le_trans hE.size hEa.size)) (by simp [leBytes_length]), ((hE.trans hEa).trans hEc).trans hE3⟩
          case measure => simp [intOf]; omega
      · go_wp2_with fail
        go_ret
        exact ⟨rfl, hE⟩
    · go_wp2_with fail
      go_ret
      exact ⟨rfl, hE⟩
end Go.Proofs.Ytjonbihhalnleaa
