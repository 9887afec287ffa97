/-
  The program's writing of a slot. Printed by mk_EPb.py.
-/
import Derived.Test.YtmbjebdkhcpclaaEBy
import Derived.Laws.CopyRow
import Derived.Laws.CopyOwn
set_option linter.unusedSimpArgs false
set_option linter.unusedVariables false
namespace Go.Proofs.Ytmbjebdkhcpclaa
open Go.RowKit

def midBytes (a : Int) (ns : List Int) (j : Nat) : List Int := leBytes 8 a ++ (ns.take j).flatMap (leBytes 1)
theorem midBytes_succ (a : Int) (ns : List Int) (j : Nat) (h : j < ns.length) : midBytes a ns (j + 1) = midBytes a ns j ++ leBytes 1 (ns.getD j 0) := by
  unfold midBytes
  rw [List.take_add_one, List.getElem?_eq_getElem h, List.getD_eq_getElem?_getD, List.getElem?_eq_getElem h, Option.toList_some, List.flatMap_append, List.flatMap_cons, List.flatMap_nil, List.append_nil, Option.getD_some, ← List.append_assoc]
theorem midBytes_length (a : Int) (ns : List Int) (j : Nat) (h : j ≤ ns.length) : (midBytes a ns j).length = 8 + j := by
  induction j with
  | zero => simp [midBytes, leBytes_length]
  | succ j ih => rw [midBytes_succ _ _ _ (by omega), List.length_append, ih (by omega), leBytes_length]; rfl
theorem midBytes_front (a b c e k l s : Int) : midBytes a [b, c, e, k] 4 ++ leBytes 8 l ++ leBytes 8 s = frontBytes a b c e k l s := by
  simp [midBytes, frontBytes]
theorem Own.row {w : World} {base g n : Nat} {e : TypeId} {k : IntKind} {xs : List Int} (h : Own w base e k (.slice (some ⟨g, 0, none⟩) n n) xs) (hn : xs.length = n) : w.heap[g]? = some (.cells (nums k xs).toArray e (0, 0)) := by
  subst hn
  rcases h.2 with ⟨h1, _⟩ | ⟨g', cap, cur, hv, hb, hg, hnc, hcm, hcs, ht⟩
  · cases h1
  · injection hv with e1 e2 e3
    injection e1 with e1
    injection e1 with e1
    subst e1 e3
    rw [← hcs, List.take_of_length_le (by simp)] at ht
    rw [← ht]; exact hg
theorem Own.of_row {w : World} {base g : Nat} {e : TypeId} {k : IntKind} {xs : List Int} (h : w.heap[g]? = some (.cells (nums k xs).toArray e (0, 0))) (hb : base ≤ g) (hm : xs.length ≤ maxLen) : Own w base e k (.slice (some ⟨g, 0, none⟩) xs.length xs.length) xs :=
  ⟨by rw [nums_length, Nat.mul_one], .inr ⟨g, _, _, rfl, hb, h, Nat.le_refl _, hm, by simp [nums_length], by rw [List.take_of_length_le (by simp [nums_length])]⟩⟩
theorem Rd.src {w : World} {k : IntKind} {b off n c : Nat} {xs : List Int} (h : Rd w k (.slice (some ⟨b, off, none⟩) n c) xs) : ∀ j v, (nums k xs)[j]? = some v → w.cell? ((⟨b, off, none⟩ : Addr).add j) = some v := by
  intro j v hv
  obtain ⟨A, c', he, h1, h2, h3, h4⟩ := h
  obtain ⟨b', off', ha, hc⟩ := h3 (fun e => by rw [e] at hv; simp at hv)
  injection he with e1 _ _
  rw [ha] at e1
  injection e1 with e1
  rw [e1, Addr.add_lit]
  exact hc j v hv
theorem copy_front (X : List Int) (hX : X.length = 28) : (nums .u8 (X ++ List.replicate 20 0)).toArray = ((nums .u8 (List.replicate 48 0)).toArray.toList.take 0 ++ nums .u8 X ++ (nums .u8 (List.replicate 48 0)).toArray.toList.drop (0 + 28)).toArray := by
  simp [nums]
theorem copy_data (X : List Int) (d : Nat → Int) (hX : X.length = 28) : (nums .u8 (X ++ dataList d ++ List.replicate 4 0)).toArray = ((nums .u8 (X ++ List.replicate 20 0)).toArray.toList.take 28 ++ nums .u8 (dataList d) ++ (nums .u8 (X ++ List.replicate 20 0)).toArray.toList.drop (28 + (nums .u8 (dataList d)).length)).toArray := by
  have h1 : (nums .u8 X).length = 28 := by rw [nums_length, hX]
  rw [nums_append, nums_append, nums_append, List.toList_toArray, List.take_append_of_le_length (by omega), List.take_of_length_le (by omega), List.drop_append, List.drop_of_length_le (by rw [h1]; simp [nums]), h1]
  simp [nums]
section
variable {P : Program} {σ : Nat → Value} {o : Oper} {w : World}
theorem op_copy {x y : Operand} {dT sT : TypeId} {v : Value} {w' : World} (ho : o.op = .call { callee := .builtin .copy, args := #[x, y], argTypes := #[dT, sT] })
    {u u' : Value} (hx : slotEval σ x = u) (hy : slotEval σ y = u') (hr : (Builtin.copy_ #[dT, sT] o.type #[u, u']).run P w = .ok v w') : (execOp (slotEval σ) o).run P w = .ok (.value v) w' := by
  simp only [execOp, ho, resolve, invoke, builtin, Sem.run_bind, Sem.run_pure, Result.andThen_ok, List.map_toArray, List.map_cons, List.map_nil, hx, hy, hr]
end
attribute [local go_sem] slotEval

set_option maxHeartbeats 4000000 in
set_option maxRecDepth 100000 in
theorem PBytes_calls (a b c e k l s : Int) (d : Nat → Int) (w : World) :
    Calls Try.prog 17 #[headVal a b c e, slotVal k l s d] w fun e' w' => ∃ v', e' = .returned v' ∧ Own w' w.heap.size 5 .u8 v' (entryBytes a b c e k l s d) ∧ Ext w w' := by
  go_enter Try.func17, Try.ntmps17
  go_wp2_with fail
  obtain ⟨A0, hA0⟩ : ∃ A0, w.heap.size = A0 := ⟨_, rfl⟩
  obtain ⟨wA, hwA⟩ : ∃ wA, (w.alloc (.cells (headCells a b c e) 30)).alloc (.cells (slotCells k l s d) 24) = wA := ⟨_, rfl⟩
  have hwA0 : w.heap.size ≤ A0 := Nat.le_of_eq hA0
  have hE0 : Ext w wA := hwA ▸ ((Ext.refl w).alloc _).alloc _
  have HH := Lib.hid (show HeadAt wA A0 a b c e by rw [← hwA, ← hA0]; exact (HeadAt.new w a b c e).ext ((Ext.refl _).alloc _))
  have HS := Lib.hid (show SlotAt wA (A0 + 1) k l s d by
    rw [← hwA, ← hA0]; have := SlotAt.new (w.alloc (.cells (headCells a b c e) 30)) k l s d; rwa [World.size_alloc] at this)
  have hs : wA.heap.size = A0 + 2 := by rw [← hwA, ← hA0]; simp
  rw [hwA, hA0]
  clear hwA hA0
  refine (Int_calls (.slice none 0 0) [] a wA (by simp) (ownsRow.reads (own_nil wA wA.heap.size 5 1))).mono ?_
  rintro e' w1 ⟨v1, rfl, hO1, hE1⟩
  have HO1 := Lib.hid (show Own w1 wA.heap.size 5 .u8 v1 (leBytes 8 a) from hO1)
  have hB0 : wA.heap.size ≤ w1.heap.size := hE1.size
  have HH1 := Lib.hid (HH.out.ext hE1)
  have HS1 := Lib.hid (HS.out.ext hE1)
  clear hO1
  obtain ⟨⟨ch0, ch1, ch2, ch3⟩, _⟩ := HH1.out.cells
  obtain ⟨⟨cs0, cs1, cs2⟩, _⟩ := HS1.out.heads
  go_wp2_with fail
  clear ch0 ch1 ch2 ch3 cs0 cs1 cs2
  obtain ⟨w2, hw2⟩ : ∃ w2, w1.alloc (.cells #[.int .i64 b, .int .i64 c, .int .i64 e, .int .i64 k] 3) = w2 := ⟨_, rfl⟩
  obtain ⟨LB, hLB⟩ : ∃ LB, w1.heap.size = LB := ⟨_, rfl⟩
  have hl2 : w2.heap[LB]? = some (.cells #[.int .i64 b, .int .i64 c, .int .i64 e, .int .i64 k] 3 (0, 0)) := by rw [← hw2, ← hLB]; exact heap_alloc_new w1 _
  have hE12 : Ext w1 w2 := hw2 ▸ (Ext.refl w1).alloc _
  have HO2 := Lib.hid (show Own w2 wA.heap.size 5 .u8 v1 (midBytes a [b, c, e, k] 0) by rw [show midBytes a [b, c, e, k] 0 = leBytes 8 a by simp [midBytes]]; exact ownsRow.ext HO1.out hE12)
  have hE2 : Ext wA w2 := hE1.trans hE12
  rw [hw2, hLB]
  have HL := Lib.hid hl2
  clear hw2 hLB HO1 HH1 HS1 hE1 hE12 hl2 hB0
  go_loopw [5, 7, 22] (fun bv nv iv wr => ∃ j : Nat, j ≤ 4 ∧ iv = .int .i64 j ∧ Own wr wA.heap.size 5 .u8 bv (midBytes a [b, c, e, k] j) ∧ Ext wA wr ∧ Ext w2 wr) (fun bv nv iv wr => 4 - (intOf iv).toNat)
  case atStart => exact ⟨0, Nat.zero_le _, rfl, HO2.out, hE2, Ext.refl _⟩
  case round =>
    clear HO2 hE2
    obtain ⟨j, hj, rfl, hO, hE, hE2⟩ := hrel
    have HO := Lib.hid hO
    clear hO
    by_cases hlt : j < 4
    · obtain ⟨q, hq⟩ : ∃ q, [b, c, e, k].getD j 0 = q := ⟨_, rfl⟩
      have Hq := Lib.hid hq
      have hcl : wr.cell? ⟨LB, j, none⟩ = some (.int .i64 q) := by
        refine (cell_of_block (hE2.heap HL.out) j).trans ?_
        rw [← hq]
        rcases (show j = 0 ∨ j = 1 ∨ j = 2 ∨ j = 3 by omega) with rfl | rfl | rfl | rfl <;> rfl
      clear hq
      go_wp2_with fail
      refine (Byte_calls _ _ q wr (by rw [midBytes_length _ _ _ (by show j ≤ 4; omega)]; omega) (ownsRow.reads HO.out)).mono ?_
      rintro e' w3 ⟨v3, rfl, hO3, hE3⟩
      have HO3 := Lib.hid hO3
      clear hO3 hcl
      go_wp2_with fail
      go_roundw
      case rel => exact ⟨j + 1, by omega, by go_num, by rw [midBytes_succ _ _ _ (by show j < 4; omega), Hq.out]; exact ownsRow.base HO3.out hE.size, hE.trans hE3, hE2.trans hE3⟩
      case measure => simp [intOf]; omega
    · obtain rfl : j = 4 := by omega
      rw [show ((4 : Nat) : Int) = 4 from rfl]
      have HS1 := Lib.hid (HS.out.ext hE)
      obtain ⟨⟨cs0, cs1, cs2⟩, _⟩ := HS1.out.heads
      have hB0 : wA.heap.size ≤ wr.heap.size := hE.size
      clear hE2 HL
      go_wp2_with fail
      refine wp_region_vchain mixed [3, 6, 7]
          [(· = u5),
           (· = .pointer (some ⟨A0 + 1, 1, none⟩)),
           (· = .int .i64 l),
           (fun _ => True),
           (· = .pointer (some ⟨A0 + 1, 2, none⟩)),
           (· = .int .i64 s),
           (fun _ => True),
           (fun _ => True)]
          (wA.heap.size) (u5) (fun kk vv ww => match kk with | 0 => Own ww (wA.heap.size) 5 .u8 vv (midBytes a [b, c, e, k] 4) | 1 => Own ww (wA.heap.size) 5 .u8 vv (midBytes a [b, c, e, k] 4 ++ leBytes 8 l) | 2 => Own ww (wA.heap.size) 5 .u8 vv (midBytes a [b, c, e, k] 4 ++ leBytes 8 l ++ leBytes 8 s) | _ => Own ww (wA.heap.size) 5 .u8 vv (midBytes a [b, c, e, k] 4 ++ leBytes 8 l ++ leBytes 8 s))
          (by kernel_rfl) (by kernel_rfl) (by decide) ?start ?steps ?post
      case start => exact HO.out
      case steps =>
        refine ⟨?_, ?_, ?_, ?_, ?_, ?_, ?_, ?_, trivial⟩
        · refine vchain_pure (by kernel_rfl) fun σ w hE hold late hk => ?_
          have h5 : σ 5 = u5 := late 7 (by kernel_rfl)
          exact ⟨rfl, _, op_move rfl, h5⟩
        · refine vchain_pure (by kernel_rfl) fun σ w hE hold late hk => ?_
          have h3 : σ 3 = .pointer (some ⟨A0 + 1, 0, none⟩) := hold 3 (by kernel_rfl)
          exact ⟨rfl, .pointer (some ⟨A0 + 1, 1, none⟩), by go_simp, rfl⟩
        · refine vchain_pure (by kernel_rfl) fun σ w hE hold late hk => ?_
          have h31 : σ 31 = .pointer (some ⟨A0 + 1, 1, none⟩) := hk.1
          have hcl := (Below.cell hE (p := ⟨(A0 + 1), 1, none⟩) (by show (A0 + 1) < _; omega)).trans cs1
          exact ⟨rfl, .int .i64 l, by go_simp, rfl⟩
        · refine vchain_turn (k := 0) (by kernel_rfl) fun σ w hE hold late hk hT => ?_
          have hT : Own w (wA.heap.size) 5 .u8 u5 (midBytes a [b, c, e, k] 4) := hT
          have hBw : wA.heap.size ≤ w.heap.size := Nat.le_trans hB0 hE.size
          have h30 : σ 30 = u5 := hk.1
          have h32 : σ 32 = .int .i64 l := hk.2.1
          refine ⟨rfl, Does.call (op_call2 rfl Try.func30 (by kernel_rfl) (by kernel_rfl) h30 h32) (Int_calls u5 (midBytes a [b, c, e, k] 4) l w (by simp [midBytes, leBytes_length]) (ownsRow.reads hT)) ?_⟩
          rintro e w' ⟨v', rfl, hO', hE'⟩
          exact ⟨v', rfl, hE'.mono hBw, ownsRow.base hO' hBw, trivial⟩
        · refine vchain_pure (by kernel_rfl) fun σ w hE hold late hk => ?_
          have h3 : σ 3 = .pointer (some ⟨A0 + 1, 0, none⟩) := hold 3 (by kernel_rfl)
          exact ⟨rfl, .pointer (some ⟨A0 + 1, 2, none⟩), by go_simp, rfl⟩
        · refine vchain_pure (by kernel_rfl) fun σ w hE hold late hk => ?_
          have h34 : σ 34 = .pointer (some ⟨A0 + 1, 2, none⟩) := hk.1
          have hcl := (Below.cell hE (p := ⟨(A0 + 1), 2, none⟩) (by show (A0 + 1) < _; omega)).trans cs2
          exact ⟨rfl, .int .i64 s, by go_simp, rfl⟩
        · refine vchain_turn (k := 1) (by kernel_rfl) fun σ w hE hold late hk hT => ?_
          have hT : Own w (wA.heap.size) 5 .u8 (σ 33) (midBytes a [b, c, e, k] 4 ++ leBytes 8 l) := hT
          have hBw : wA.heap.size ≤ w.heap.size := Nat.le_trans hB0 hE.size
          have h35 : σ 35 = .int .i64 s := hk.2.1
          refine ⟨rfl, Does.call (op_call2 rfl Try.func30 (by kernel_rfl) (by kernel_rfl) (rfl) h35) (Int_calls (σ 33) (midBytes a [b, c, e, k] 4 ++ leBytes 8 l) s w (by simp [midBytes, leBytes_length]) (ownsRow.reads hT)) ?_⟩
          rintro e w' ⟨v', rfl, hO', hE'⟩
          exact ⟨v', rfl, hE'.mono hBw, ownsRow.base hO' hBw, trivial⟩
        · refine vchain_turn (k := 2) (by kernel_rfl) fun σ w hE hold late hk hT => ?_
          have hT : Own w (wA.heap.size) 5 .u8 (σ 36) (midBytes a [b, c, e, k] 4 ++ leBytes 8 l ++ leBytes 8 s) := hT
          have hBw : wA.heap.size ≤ w.heap.size := Nat.le_trans hB0 hE.size
          exact ⟨rfl, Does.ok (op_assign rfl) ⟨Below.refl _ _, hT, trivial⟩⟩
      case post =>
        intro σ w3 hE3 hT hL
        have hT : Own w3 (wA.heap.size) 5 .u8 (σ 5) (midBytes a [b, c, e, k] 4 ++ leBytes 8 l ++ leBytes 8 s) := hT
        clear hL
        simp only [putAll, List.map_cons, List.map_nil, List.zip_cons_cons, List.zip_nil_right, List.foldl_cons, List.foldl_nil, Act.put, Option.getD_some, List.setIfInBounds_toArray, List.set_cons_zero, List.set_cons_succ]
        obtain ⟨v2, hv2⟩ : ∃ v2, σ 5 = v2 := ⟨_, rfl⟩
        rw [hv2] at hT ⊢
        rw [midBytes_front] at hT
        obtain ⟨X, hX⟩ : ∃ X, frontBytes a b c e k l s = X := ⟨_, rfl⟩
        have hXl := frontBytes_length a b c e k l s
        rw [hX] at hT hXl
        obtain ⟨g1, c1, rfl, _, hc1, _, _⟩ := Own.pos hT (by omega)
        rw [hXl] at hT ⊢
        have HX := Lib.hid hXl
        have HXe := Lib.hid hX
        obtain ⟨wM, hwM⟩ : ∃ wM, w3 = wM := ⟨_, rfl⟩
        have hE := hwM ▸ Below.trans hE hE3
        have HB := Lib.hid (show Rd wM .u8 (.slice (some ⟨g1, 0, none⟩) 28 c1) X from hwM ▸ ownsRow.reads hT)
        have HSM := Lib.hid (hwM ▸ HS1.out.below hE3 (by omega))
        rw [hwM]
        clear hT hE3 hv2 HS1 hXl hX hwM HO cs0 cs1 cs2 hB0
        have tok : True := trivial
        go_wp2_with (at_make; have _t := tok; clear _t; refine wpList_make_nums rfl _ _ 26 5 .u8 1 rfl Try.underlying26 infoU8 _ _ _ _ 48 rfl rfl rfl rfl (by omega) (by omega) ?_; intro w5 hO5 hEM; clear tok)
        have HR := Lib.hid (Own.row hO5 rfl)
        have hB0 : wM.heap.size ≤ w5.heap.size := hEM.size
        clear hO5
        refine wp_region_vchain mixed [3, 7]
            [(· = .slice (some ⟨wM.heap.size, 0, none⟩) 48 48),
             (· = .slice (some ⟨wM.heap.size, 0, none⟩) 48 48),
             (· = .slice (some ⟨g1, 0, none⟩) 28 c1),
             (· = .int .i64 28),
             (· = .slice (some ⟨wM.heap.size, 28, none⟩) 20 20),
             (· = .pointer (some ⟨A0 + 1, 3, none⟩)),
             (· = .slice (some ⟨A0 + 1, 3, none⟩) 16 16),
             (· = .int .i64 16)]
            (wM.heap.size) (.slice (some ⟨wM.heap.size, 0, none⟩) 48 48) (fun kk vv ww => match kk with | 0 => ww.heap[wM.heap.size]? = some (.cells (nums .u8 (List.replicate 48 0)).toArray 5 (0, 0)) | 1 => ww.heap[wM.heap.size]? = some (.cells (nums .u8 (X ++ List.replicate 20 0)).toArray 5 (0, 0)) | _ => ww.heap[wM.heap.size]? = some (.cells (nums .u8 (X ++ dataList d ++ List.replicate 4 0)).toArray 5 (0, 0)))
            (by kernel_rfl) (by kernel_rfl) (by decide) ?start ?steps ?post
        case start => exact HR.out
        case steps =>
          refine ⟨?_, ?_, ?_, ?_, ?_, ?_, ?_, ?_, trivial⟩
          · refine vchain_pure (by kernel_rfl) fun σ w hE hold late hk => ?_
            have h8 : σ 8 = .slice (some ⟨wM.heap.size, 0, none⟩) 48 48 := hold 8 (by kernel_rfl)
            exact ⟨rfl, _, op_move rfl, h8⟩
          · refine vchain_pure (by kernel_rfl) fun σ w hE hold late hk => ?_
            have h8 : σ 8 = .slice (some ⟨wM.heap.size, 0, none⟩) 48 48 := hold 8 (by kernel_rfl)
            exact ⟨rfl, _, op_move rfl, h8⟩
          · refine vchain_pure (by kernel_rfl) fun σ w hE hold late hk => ?_
            have h5 : σ 5 = .slice (some ⟨g1, 0, none⟩) 28 c1 := hold 5 (by kernel_rfl)
            exact ⟨rfl, _, op_move rfl, h5⟩
          · refine vchain_turn (k := 0) (by kernel_rfl) fun σ w hE hold late hk hT => ?_
            have hT : w.heap[wM.heap.size]? = some (.cells (nums .u8 (List.replicate 48 0)).toArray 5 (0, 0)) := hT
            have hBw : wM.heap.size ≤ w.heap.size := Nat.le_trans hB0 hE.size
            have h43 : σ 43 = .slice (some ⟨wM.heap.size, 0, none⟩) 48 48 := hk.1
            have h44 : σ 44 = .slice (some ⟨g1, 0, none⟩) 28 c1 := hk.2.1
            have hrun := run_copy_row (P := Try.prog) w 26 26 3 5 wM.heap.size 0 48 48 ⟨g1, 0, none⟩ 28 c1 _ _ (nums .u8 X) Try.underlying26 (by kernel_rfl) hT (by rw [nums_length, HX.out]; rfl) (Rd.src (HB.out.ext (Below.trans hEM hE))) (by rw [nums_length, HX.out]; simp [nums]) (nums_one _ _)
            rw [nums_length, HX.out] at hrun
            exact ⟨rfl, Does.ok (op_copy rfl h43 h44 hrun) ⟨below_setRow (Below.refl _ _) (Nat.le_refl _) _, by rw [copy_front X HX.out]; exact row_at hT, rfl⟩⟩
          · refine vchain_pure (by kernel_rfl) fun σ w hE hold late hk => ?_
            have h42 : σ 42 = .slice (some ⟨wM.heap.size, 0, none⟩) 48 48 := hk.1
            have h45 : σ 45 = .int .i64 28 := hk.2.1
            exact ⟨rfl, .slice (some ⟨wM.heap.size, 28, none⟩) 20 20, by go_simp, rfl⟩
          · refine vchain_pure (by kernel_rfl) fun σ w hE hold late hk => ?_
            have h3 : σ 3 = .pointer (some ⟨A0 + 1, 0, none⟩) := hold 3 (by kernel_rfl)
            exact ⟨rfl, .pointer (some ⟨A0 + 1, 3, none⟩), by go_simp, rfl⟩
          · refine vchain_pure (by kernel_rfl) fun σ w hE hold late hk => ?_
            have h47 : σ 47 = .pointer (some ⟨A0 + 1, 3, none⟩) := hk.1
            exact ⟨rfl, .slice (some ⟨A0 + 1, 3, none⟩) 16 16, by go_simp, rfl⟩
          · refine vchain_turn (k := 1) (by kernel_rfl) fun σ w hE hold late hk hT => ?_
            have hT : w.heap[wM.heap.size]? = some (.cells (nums .u8 (X ++ List.replicate 20 0)).toArray 5 (0, 0)) := hT
            have hBw : wM.heap.size ≤ w.heap.size := Nat.le_trans hB0 hE.size
            have h46 : σ 46 = .slice (some ⟨wM.heap.size, 28, none⟩) 20 20 := hk.1
            have h48 : σ 48 = .slice (some ⟨A0 + 1, 3, none⟩) 16 16 := hk.2.1
            have hrun := run_copy_row (P := Try.prog) w 26 26 3 5 wM.heap.size 28 20 20 ⟨A0 + 1, 3, none⟩ 16 16 _ _ (nums .u8 (dataList d)) Try.underlying26 (by kernel_rfl) hT rfl (Rd.src (HSM.out.ext (Below.trans hEM hE)).rd) (by rw [List.size_toArray, nums_length, nums_length, List.length_append, HX.out]; simp) (nums_one _ _)
            exact ⟨rfl, Does.ok (op_copy rfl h46 h48 hrun) ⟨below_setRow (Below.refl _ _) (Nat.le_refl _) _, by rw [copy_data X d HX.out]; exact row_at hT, rfl⟩⟩
        case post =>
          intro σ w3 hE3 hT hL
          have hT : w3.heap[wM.heap.size]? = some (.cells (nums .u8 (X ++ dataList d ++ List.replicate 4 0)).toArray 5 (0, 0)) := hT
          clear hL
          simp only [putAll, List.map_cons, List.map_nil, List.zip_cons_cons, List.zip_nil_right, List.foldl_cons, List.foldl_nil, Act.put, Option.getD_some, List.setIfInBounds_toArray, List.set_cons_zero, List.set_cons_succ]
          have HT := Lib.hid hT
          clear hT
          go_wp2_with fail
          go_ret
          refine ⟨_, rfl, ?_, Ext.trans hE0 (Ext.trans hE (show Ext wM w3 from Below.trans hEM hE3))⟩
          have := Own.of_row (base := w.heap.size) HT.out (Nat.le_trans hE0.size hE.size) (by simp [HX.out]; decide)
          have hl48 : (X ++ dataList d ++ List.replicate 4 0).length = 48 := by simp [HX.out]
          rw [hl48] at this
          rw [entryBytes, HXe.out]
          exact this
end Go.Proofs.Ytmbjebdkhcpclaa
