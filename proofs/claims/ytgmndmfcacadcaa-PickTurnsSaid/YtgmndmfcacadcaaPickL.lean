/-
  What the two programs take: the plain law and the walks.
-/
import Derived.Test.YtgmndmfcacadcaaProg
import Derived.Test.YtgmndmfcacadcaaLb
import Derived.RangeFuncNested
import Derived.RangeFuncBound
import Derived.RangeFuncCalls
import Derived.RangeFuncLeaves
import Derived.RangeFuncBox
import Derived.Shelf.Abstract
import Derived.Shelf.RegionOpen
import Derived.OwnWalkIn
import Derived.TacticsInMore
import Derived.LoopNIn
import Derived.LoopIn
set_option linter.unusedSimpArgs false
set_option linter.unusedVariables false
namespace Go.Proofs.Ytgmndmfcacadcaa
open Go.RowKit Go.Shelf

/-- What may be taken of the first i places: the place, the number. -/
def allowedTo (ms : List Bool) (xs : List Int) (i : Nat) : List (Nat × Int) := (List.range i).filterMap fun j => if ms.getD j false then some (j, xs.getD j 0) else none
theorem allowedTo_zero (ms : List Bool) (xs : List Int) : allowedTo ms xs 0 = [] := rfl
theorem allowedTo_yes (ms : List Bool) (xs : List Int) (i : Nat) (h : ms.getD i false = true) : allowedTo ms xs (i + 1) = allowedTo ms xs i ++ [(i, xs.getD i 0)] := by
  rw [allowedTo, List.range_succ, List.filterMap_append, allowedTo, List.filterMap_cons, if_pos h, List.filterMap_nil]
theorem allowedTo_no (ms : List Bool) (xs : List Int) (i : Nat) (h : ms.getD i false = false) : allowedTo ms xs (i + 1) = allowedTo ms xs i := by
  rw [allowedTo, List.range_succ, List.filterMap_append, allowedTo, List.filterMap_cons, h, List.filterMap_nil]
  simp
theorem allowedTo_length (ms : List Bool) (xs : List Int) (i : Nat) : (allowedTo ms xs i).length ≤ i := by
  have := List.length_filterMap_le (fun j => if ms.getD j false then some (j, xs.getD j 0) else none) (List.range i)
  simpa [allowedTo] using this

/-- The place and the number of the least one so far. -/
def leastF (ps : List (Nat × Int)) : Int × Int := ps.foldl (fun s p => if s.1 < 0 ∨ p.2 < s.2 then ((p.1 : Int), p.2) else s) (-1, 0)
theorem leastF_snoc (ps : List (Nat × Int)) (p : Nat × Int) : leastF (ps ++ [p]) = if (leastF ps).1 < 0 ∨ p.2 < (leastF ps).2 then ((p.1 : Int), p.2) else leastF ps := by rw [leastF, List.foldl_append]; rfl

/-- What the program tells. -/
def leastPos (ms : List Bool) (xs : List Int) : Int := (leastF (allowedTo ms xs (min ms.length xs.length))).1

/-- Where the least one so far stands. -/
theorem leastF_at (ms : List Bool) (xs : List Int) (i : Nat) : ((leastF (allowedTo ms xs i)).1 = -1 ∧ (leastF (allowedTo ms xs i)).2 = 0 ∧ ∀ j, j < i → ms.getD j false = false) ∨
    ∃ k : Nat, k < i ∧ leastF (allowedTo ms xs i) = ((k : Int), xs.getD k 0) ∧ ms.getD k false = true ∧ ∀ j, j < i → ms.getD j false = true → xs.getD k 0 ≤ xs.getD j 0 ∧ (xs.getD k 0 = xs.getD j 0 → k ≤ j) := by
  induction i with
  | zero => exact .inl ⟨rfl, rfl, fun j h => absurd h (Nat.not_lt_zero _)⟩
  | succ i ih =>
    cases h : ms.getD i false with
    | false =>
      rw [allowedTo_no ms xs i h]
      rcases ih with ⟨h1, h2, h3⟩ | ⟨k, h1, h2, h3, h4⟩
      · refine .inl ⟨h1, h2, fun j hj => ?_⟩
        rcases Nat.lt_or_ge j i with hji | hji
        · exact h3 j hji
        · rw [show j = i by omega]; exact h
      · refine .inr ⟨k, by omega, h2, h3, fun j hj hm => ?_⟩
        rcases Nat.lt_or_ge j i with hji | hji
        · exact h4 j hji hm
        · rw [show j = i by omega, h] at hm; cases hm
    | true =>
      rw [allowedTo_yes ms xs i h, leastF_snoc]
      rcases ih with ⟨h1, h2, h3⟩ | ⟨k, h1, h2, h3, h4⟩
      · rw [if_pos (.inl (by rw [h1]; decide))]
        refine .inr ⟨i, by omega, rfl, h, fun j hj hm => ?_⟩
        rcases Nat.lt_or_ge j i with hji | hji
        · rw [h3 j hji] at hm; cases hm
        · rw [show j = i by omega]; exact ⟨Int.le_refl _, fun _ => Nat.le_refl _⟩
      · rw [h2]
        by_cases hlt : xs.getD i 0 < xs.getD k 0
        · rw [if_pos (.inr hlt)]
          refine .inr ⟨i, by omega, rfl, h, fun j hj hm => ?_⟩
          rcases Nat.lt_or_ge j i with hji | hji
          · have := (h4 j hji hm).1
            exact ⟨by omega, fun e => by omega⟩
          · rw [show j = i by omega]; exact ⟨Int.le_refl _, fun _ => Nat.le_refl _⟩
        · rw [if_neg (by rintro (a | a)
                         · simp at a; omega
                         · exact hlt a)]
          refine .inr ⟨k, by omega, rfl, h3, fun j hj hm => ?_⟩
          rcases Nat.lt_or_ge j i with hji | hji
          · exact h4 j hji hm
          · rw [show j = i by omega]; exact ⟨by omega, fun _ => by omega⟩

/-- The two slices that the iterator holds, in their boxes. -/
def Both (w : World) (Bm Bl : Nat) (ms : List Bool) (xs : List Int) : Prop :=
  ∃ vm vl, w.cell? ⟨Bm, 0, none⟩ = some vm ∧ w.cell? ⟨Bl, 0, none⟩ = some vl ∧ RdB w vm ms ∧ Rd w .i64 vl xs
theorem Both.ext {w w' : World} {Bm Bl : Nat} {ms : List Bool} {xs : List Int} (h : Both w Bm Bl ms xs) (hE : Ext w w') : Both w' Bm Bl ms xs := by
  obtain ⟨vm, vl, h1, h2, h3, h4⟩ := h
  exact ⟨vm, vl, hE.cell h1, hE.cell h2, h3.ext hE, h4.ext hE⟩

theorem two_cells (W : World) (A B : Nat) (hne : A ≠ B) (u v : Value) {u0 v0 : Value} (h1 : W.cell? ⟨A, 0, none⟩ = some u0) (h2 : W.cell? ⟨B, 0, none⟩ = some v0) :
    ((W.setCell ⟨A, 0, none⟩ u).setCell ⟨B, 0, none⟩ v).cell? ⟨A, 0, none⟩ = some u ∧ ((W.setCell ⟨A, 0, none⟩ u).setCell ⟨B, 0, none⟩ v).cell? ⟨B, 0, none⟩ = some v := by
  refine ⟨?_, World.cell?_setCell_same' _ _ _ ?_⟩
  · rw [World.cell?_of_block (a := ⟨A, 0, none⟩) (Below.heap_setCell (W.setCell ⟨A, 0, none⟩ u) ⟨B, 0, none⟩ v A hne)]
    exact World.cell?_setCell_same' _ _ _ (by rw [h1]; rfl)
  · rw [World.cell?_of_block (a := ⟨B, 0, none⟩) (Below.heap_setCell W ⟨A, 0, none⟩ u B (Ne.symm hne)), h2]
    rfl

section
attribute [local go_sem] Oper.semAt_some

set_option maxRecDepth 100000 in
set_option maxHeartbeats 2000000 in
theorem allowed1_in (F : Fence) (n : Nat) (h19 : F.fn 19) (hro : F.round = none) (hn : 1 ≤ n) (l Bm Bl : Nat) (ms : List Bool) (xs : List Int) (w : World) (hA : Both w Bm Bl ms xs) (J Jx : List (Nat × Int) → World → Prop)
    (hY : ∀ pre x W, J pre W → pre.length < min ms.length xs.length → YieldAt F (n - 1) Try.prog l #[.int .i64 (x.1 : Int), .int .i64 x.2] W fun e W' =>
      (e = .returned (.bool true) ∧ J (pre ++ [x]) W' ∧ Below w.heap.size W W') ∨ (e = .returned (.bool false) ∧ Jx (pre ++ [x]) W'))
    (W : World) (hW : Below w.heap.size w W) (h0 : J [] W) :
    CallsIn F n Try.prog 19 #[.func (.yield l) #[] #[], .pointer (some ⟨Bm, 0, none⟩), .pointer (some ⟨Bl, 0, none⟩)] W fun e W' => (∃ v, e = .returned v) ∧
      ((∃ ys, ys = allowedTo ms xs (min ms.length xs.length) ∧ J ys W') ∨ (∃ pre, True ∧ Jx pre W')) := by
  obtain ⟨vm, vl, hm0, hl0, hm, hl⟩ := hA
  obtain ⟨Am, cm, rfl⟩ := hm.shape
  obtain ⟨Al, cl, rfl⟩ := hl.shape
  have hlm : ms.length ≤ maxLen := by obtain ⟨A, c, he, h1, h2, _⟩ := hm; omega
  have hll : xs.length ≤ maxLen := by obtain ⟨A, c, he, h1, h2, _⟩ := hl; omega
  unfold maxLen at hlm hll
  have hbm := World.block_lt_of_cell? w _ hm0
  have hbl := World.block_lt_of_cell? w _ hl0
  have Hm := Lib.hid hm
  have Hl := Lib.hid hl
  have Hm0 := Lib.hid hm0
  have Hl0 := Lib.hid hl0
  have c1 := (hW.cell (p := ⟨Bm, 0, none⟩) hbm).trans hm0
  have c2 := (hW.cell (p := ⟨Bl, 0, none⟩) hbl).trans hl0
  clear hm hl hm0 hl0
  refine callsIn_of_wp Try.func19 rfl h19 ?_ hro
  simp only [Try.ntmps19, List.size_toArray, List.length_cons, List.length_nil, Nat.reduceAdd, Nat.reduceSub, Array.replicate_succ, Array.replicate_zero, List.push_toArray, List.append_toArray, List.nil_append, List.cons_append]
  rcases Nat.lt_or_ge xs.length ms.length with hle | hle
  · gi_wp2
    gi_loopw [10] (fun i wr => ∃ k : Nat, k ≤ xs.length ∧ i = .int .i64 k ∧ J (allowedTo ms xs k) wr ∧ Below w.heap.size w wr)
      (fun i _ => xs.length - (intOf i).toNat)
    case atStart => exact ⟨0, Nat.zero_le _, rfl, h0, hW⟩
    case round =>
      obtain ⟨k, hk, rfl, hJs, hB⟩ := hrel
      have c1 := (hB.cell (p := ⟨Bm, 0, none⟩) hbm).trans Hm0.out
      have c2 := (hB.cell (p := ⟨Bl, 0, none⟩) hbl).trans Hl0.out
      by_cases hlt : k < xs.length
      · obtain ⟨bm, offm, cm', he', hcm, hcmm, hcellm⟩ := RdB.pos (Hm.out.ext hB) (by omega)
        injection he' with e1 e2 e3
        subst e1 e3
        obtain ⟨bl, offl, cl', he', hcl, hclm, hcelll⟩ := Rd.pos (Hl.out.ext hB) (by omega)
        injection he' with e1 e2 e3
        subst e1 e3
        unfold maxLen at hcmm hclm
        have d1 := hcellm k (by omega)
        have d2 := hcelll k (by omega)
        obtain ⟨q, hq⟩ : ∃ q, xs.getD k 0 = q := ⟨_, rfl⟩
        obtain ⟨mb, hmb⟩ : ∃ mb, ms.getD k false = mb := ⟨_, rfl⟩
        rw [hq] at d2
        rw [hmb] at d1
        have Hq := Lib.hid hq
        have Hmb := Lib.hid hmb
        clear hcellm hcelll hq hmb
        cases mb with
        | false =>
          gi_wp2
          refine ⟨fun _ h => (by cases h), ?_⟩
          gi_wp2
          go_roundw
          case rel => exact ⟨k + 1, by omega, by simp, by rw [allowedTo_no ms xs k Hmb.out]; exact hJs, hB⟩
          case measure => simp [intOf]; omega
        | true =>
          obtain ⟨fn, tmps, assign, body, hy, hR⟩ := hY _ (k, q) wr hJs (by have := allowedTo_length ms xs k; omega)
          dsimp only at hy
          gi_wp2
          refine hR.mono ?_
          rintro e W3 (⟨rfl, hJ3, hk3⟩ | ⟨rfl, hJx3⟩)
          · gi_wp2
            go_roundw
            case rel => exact ⟨k + 1, by omega, by simp, by rw [allowedTo_yes ms xs k Hmb.out, Hq.out]; exact hJ3, hB.trans hk3⟩
            case measure => simp [intOf]; omega
          · gi_wp2
            refine bodyPost_ret (results_none rfl _ _ _) rfl ?_
            exact ⟨⟨_, rfl⟩, .inr ⟨_, trivial, hJx3⟩⟩
      · obtain rfl : k = xs.length := by omega
        gi_wp2
        go_end0
        exact ⟨⟨_, rfl⟩, .inl ⟨_, by rw [Nat.min_eq_right (Nat.le_of_lt hle)], hJs⟩⟩
  · gi_wp2
    gi_loopw [10] (fun i wr => ∃ k : Nat, k ≤ ms.length ∧ i = .int .i64 k ∧ J (allowedTo ms xs k) wr ∧ Below w.heap.size w wr)
      (fun i _ => ms.length - (intOf i).toNat)
    case atStart => exact ⟨0, Nat.zero_le _, rfl, h0, hW⟩
    case round =>
      obtain ⟨k, hk, rfl, hJs, hB⟩ := hrel
      have c1 := (hB.cell (p := ⟨Bm, 0, none⟩) hbm).trans Hm0.out
      have c2 := (hB.cell (p := ⟨Bl, 0, none⟩) hbl).trans Hl0.out
      by_cases hlt : k < ms.length
      · obtain ⟨bm, offm, cm', he', hcm, hcmm, hcellm⟩ := RdB.pos (Hm.out.ext hB) (by omega)
        injection he' with e1 e2 e3
        subst e1 e3
        obtain ⟨bl, offl, cl', he', hcl, hclm, hcelll⟩ := Rd.pos (Hl.out.ext hB) (by omega)
        injection he' with e1 e2 e3
        subst e1 e3
        unfold maxLen at hcmm hclm
        have d1 := hcellm k (by omega)
        have d2 := hcelll k (by omega)
        obtain ⟨q, hq⟩ : ∃ q, xs.getD k 0 = q := ⟨_, rfl⟩
        obtain ⟨mb, hmb⟩ : ∃ mb, ms.getD k false = mb := ⟨_, rfl⟩
        rw [hq] at d2
        rw [hmb] at d1
        have Hq := Lib.hid hq
        have Hmb := Lib.hid hmb
        clear hcellm hcelll hq hmb
        cases mb with
        | false =>
          gi_wp2
          refine ⟨fun _ h => (by cases h), ?_⟩
          gi_wp2
          go_roundw
          case rel => exact ⟨k + 1, by omega, by simp, by rw [allowedTo_no ms xs k Hmb.out]; exact hJs, hB⟩
          case measure => simp [intOf]; omega
        | true =>
          obtain ⟨fn, tmps, assign, body, hy, hR⟩ := hY _ (k, q) wr hJs (by have := allowedTo_length ms xs k; omega)
          dsimp only at hy
          gi_wp2
          refine hR.mono ?_
          rintro e W3 (⟨rfl, hJ3, hk3⟩ | ⟨rfl, hJx3⟩)
          · gi_wp2
            go_roundw
            case rel => exact ⟨k + 1, by omega, by simp, by rw [allowedTo_yes ms xs k Hmb.out, Hq.out]; exact hJ3, hB.trans hk3⟩
            case measure => simp [intOf]; omega
          · gi_wp2
            refine bodyPost_ret (results_none rfl _ _ _) rfl ?_
            exact ⟨⟨_, rfl⟩, .inr ⟨_, trivial, hJx3⟩⟩
      · obtain rfl : k = ms.length := by omega
        gi_wp2
        go_end0
        exact ⟨⟨_, rfl⟩, .inl ⟨_, by rw [Nat.min_eq_left hle], hJs⟩⟩

/-- The iterator, at whatever loop body keeps what lay. -/
theorem allowed_stops (F : Fence) (n : Nat) (h19 : F.fn 19) (hro : F.round = none) (hn : 1 ≤ n) (Bm Bl : Nat) (ms : List Bool) (xs : List Int) (w : World) (hA : Both w Bm Bl ms xs) :
    SeqStopsK F n Try.prog 19 #[.pointer (some ⟨Bm, 0, none⟩), .pointer (some ⟨Bl, 0, none⟩)] (fun x : Nat × Int => #[Value.int .i64 (x.1 : Int), Value.int .i64 x.2]) (Below w.heap.size) (fun ys => ys = allowedTo ms xs (min ms.length xs.length))
      (fun _ => True) (min ms.length xs.length) w := fun l J Jx W hW _ _ hY h0 => by
  exact allowed1_in F n h19 hro hn l Bm Bl ms xs w hA J Jx hY W hW h0

set_option maxRecDepth 100000 in
set_option maxHeartbeats 2000000 in
theorem least_in (F : Fence) (n : Nat) (h16 : F.fn 16) (h19 : F.fn 19) (hro : F.round = none) (hn : 3 ≤ n) (Bm Bl : Nat) (ms : List Bool) (xs : List Int) (w : World) (hA : Both w Bm Bl ms xs) :
    CallsIn F n Try.prog 16 #[.func (.func 19) #[] #[.pointer (some ⟨Bm, 0, none⟩), .pointer (some ⟨Bl, 0, none⟩)]] w fun e W' => e = .returned (.int .i64 (leastPos ms xs)) ∧ Below w.heap.size w W' := by
  have h1 : 1 ≤ n := by omega
  refine callsIn_of_wp_marks Try.func16 rfl h16 ?_ hro
  simp only [Try.ntmps16, List.size_toArray, List.length_cons, List.length_nil, Nat.reduceAdd, Nat.reduceSub, Array.replicate_succ, Array.replicate_zero, List.push_toArray, List.append_toArray, List.nil_append, List.cons_append]
  gi_wp2
  have bA := Boxed.new w 3 (.int .i64 (-1))
  have bL := Boxed.new (w.alloc (.cells #[.int .i64 (-1)] 3)) 3 (.int .i64 0)
  rw [World.size_alloc] at bL
  have hB0 : Below w.heap.size w ((w.alloc (.cells #[.int .i64 (-1)] 3)).alloc (.cells #[.int .i64 0] 3)) := ((Below.refl _ w).alloc (Nat.le_refl _) _).alloc (by simp) _
  refine wpIn_rangeFunc_ownG hro h1 (gf := 19) (lb := #[.pointer (some ⟨Bm, 0, none⟩), .pointer (some ⟨Bl, 0, none⟩)]) rfl h19 (enters_of Try.func19 (by kernel_rfl) rfl)
    (allowed_stops F (n - 1) h19 hro (by omega) Bm Bl ms xs w hA) belowK_t (belowK_b (by simp; omega)) hB0 (fun _ => rfl)
    (fun pre W => (W.cell? ⟨w.heap.size, 0, none⟩ = some (.int .i64 (leastF pre).1) ∧ W.frozen? ⟨w.heap.size, 0, none⟩ = false ∧ W.cell? ⟨w.heap.size + 1, 0, none⟩ = some (.int .i64 (leastF pre).2) ∧ W.frozen? ⟨w.heap.size + 1, 0, none⟩ = false) ∧ Below w.heap.size w W)
    (fun _ _ _ => False)
    (OwnFrom.and (Own.from (fun s A B row hs hg hr => ⟨cell_kept hs.1 hg hr, (frozen_kept hs.1 hg hr).trans hs.2.1, cell_kept hs.2.2.1 hg hr, (frozen_kept hs.2.2.1 hg hr).trans hs.2.2.2⟩) _) (ownFrom_below (Nat.le_refl _) (by simp; omega)))
    (fun _ _ _ _ _ hs _ _ => hs)
    ⟨⟨(bA.alloc _).cell, (bA.alloc _).frozen, bL.cell, bL.frozen⟩, hB0⟩
    (fun x => { tmps := #[.func (.func 19) #[] #[.pointer (some ⟨Bm, 0, none⟩), .pointer (some ⟨Bl, 0, none⟩)], undef, .int .i64 0, .pointer (some ⟨w.heap.size, 0, none⟩), .pointer (some ⟨w.heap.size + 1, 0, none⟩), .int .i64 (x.1 : Int), .int .i64 x.2, .func (.func 19) #[] #[.pointer (some ⟨Bm, 0, none⟩), .pointer (some ⟨Bl, 0, none⟩)], .int .i64 (x.1 : Int), .int .i64 x.2, undef, undef, undef, undef, undef, undef, undef, undef, undef, undef], defers := [] }) ?assign ?body ?done ?stop
  case assign =>
    intro l x W K hK
    gi_wp2
    exact hK
  case body =>
    rintro l pre x W ⟨⟨hc, hf, hc2, hf2⟩, hB⟩ _
    have hsn := leastF_snoc pre x
    obtain ⟨a, ha⟩ : ∃ a, (leastF pre).1 = a := ⟨_, rfl⟩
    obtain ⟨b, hb⟩ : ∃ b, (leastF pre).2 = b := ⟨_, rfl⟩
    rw [ha] at hc hsn
    rw [hb] at hc2 hsn
    have Hab := Lib.hid (show leastF pre = (a, b) from Prod.ext ha hb)
    have Hsn := Lib.hid hsn
    clear ha hb hsn

    have stored : ∀ (B' : Nat) (a' : Act), (a < 0 ∨ x.2 < b) → ownPostG B' (Below w.heap.size) (fun pre W => (W.cell? ⟨w.heap.size, 0, none⟩ = some (.int .i64 (leastF pre).1) ∧ W.frozen? ⟨w.heap.size, 0, none⟩ = false ∧ W.cell? ⟨w.heap.size + 1, 0, none⟩ = some (.int .i64 (leastF pre).2) ∧ W.frozen? ⟨w.heap.size + 1, 0, none⟩ = false) ∧ Below w.heap.size w W) (fun _ _ _ => False) (pre ++ [x]) W .normal a' ((W.setCell ⟨w.heap.size, 0, none⟩ (.int .i64 (x.1 : Int))).setCell ⟨w.heap.size + 1, 0, none⟩ (.int .i64 x.2)) := by
      intro B' a' h
      have hs2 := Hsn.out
      rw [if_pos h] at hs2
      obtain ⟨t1, t2⟩ := two_cells W w.heap.size (w.heap.size + 1) (by omega) (.int .i64 (x.1 : Int)) (.int .i64 x.2) hc hc2
      exact ⟨((KeepsOthers.setCell _ _ _).trans (KeepsOthers.setCell _ _ _)).from _, ((Below.refl w.heap.size W).setCell (p := ⟨w.heap.size, 0, none⟩) (Nat.le_refl _) _).setCell (p := ⟨w.heap.size + 1, 0, none⟩) (by simp) _,
        ⟨by rw [hs2]; exact t1, by rw [World.frozen?_setCell, World.frozen?_setCell]; exact hf, by rw [hs2]; exact t2, by rw [World.frozen?_setCell, World.frozen?_setCell]; exact hf2⟩, (hB.setCell (p := ⟨w.heap.size, 0, none⟩) (Nat.le_refl _) _).setCell (p := ⟨w.heap.size + 1, 0, none⟩) (by simp) _⟩
    have Stored := Lib.hid stored
    clear stored
    by_cases h1 : a < 0
    · gi_wp2
      exact Stored.out _ _ (.inl h1)
    · by_cases h2 : x.2 < b
      · gi_wp2
        exact Stored.out _ _ (.inr h2)
      · gi_wp2
        have hs2 := Hsn.out
        rw [if_neg (by rintro (e | e) <;> omega), Hab.out] at hs2
        exact ⟨KeepsFrom.refl _ _, Below.refl _ _, ⟨by rw [hs2]; exact hc, hf, by rw [hs2]; exact hc2, hf2⟩, hB⟩
  case done =>
    rintro D ys W hD rfl ⟨⟨hc, _⟩, hB⟩ hK
    gi_wp2
    refine ⟨by simp, .inl ⟨_, _, rfl, run_takeDeferred hK, ?_⟩⟩
    exact ⟨_, results_tmp rfl _ _ _, rfl, hB.trans (belowK_b (w := w) (Nat.le_refl _) W D _ _ (by simp at hD; omega) hK rfl rfl)⟩
  case stop =>
    rintro D c pre W _ _ h _
    exact h.elim
end
end Go.Proofs.Ytgmndmfcacadcaa
