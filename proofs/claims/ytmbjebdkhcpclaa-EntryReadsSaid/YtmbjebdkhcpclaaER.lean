/-
  Contracts of the reader.
-/
import Derived.Test.YtmbjebdkhcpclaaEW
import Derived.OpenShut
set_option linter.unusedSimpArgs false
set_option linter.unusedVariables false
namespace Go.Proofs.Ytmbjebdkhcpclaa
open Go.RowKit

theorem cell_of_block {w : World} {g : Nat} {cs : Array Value} {t : TypeId} {fr : Nat × Nat} (h : w.heap[g]? = some (.cells cs t fr)) (j : Nat) : w.cell? ⟨g, j, none⟩ = cs[j]? := by
  simp [World.cell?, h]
theorem frozen_of_block {w : World} {g : Nat} {cs : Array Value} {t : TypeId} (h : w.heap[g]? = some (.cells cs t (0, 0))) (j : Nat) : w.frozen? ⟨g, j, none⟩ = false := by
  simp [World.frozen?, h]

set_option maxHeartbeats 400000 in
theorem rowTake_short (h : Nat) (A : Option Addr) (n c k : Nat) (w : World) (hb : w.heap[h]? = some (.cells #[.slice A n c] 68 (0, 0))) (hk : n < k) :
    Calls Try.prog 35 #[.pointer (some ⟨h, 0, none⟩), .int .i64 k] w fun e w' => e = .returned (.tuple #[.slice none 0 0, .bool false]) ∧ w = w' := by
  have hc := cell_of_block hb 0
  simp only [List.getElem?_toArray, List.getElem?_cons_zero] at hc
  clear hb
  go_enter Try.func35, Try.ntmps35
  go_wp2_with fail
  go_ret2
  exact ⟨rfl, rfl⟩

set_option maxHeartbeats 400000 in
theorem rowTake_long (h b off n c k : Nat) (w : World) (hb : w.heap[h]? = some (.cells #[.slice (some ⟨b, off, none⟩) n c] 68 (0, 0))) (hk : k ≤ n) (hn : n ≤ c) (hc63 : c ≤ 9223372036854775807) :
    Calls Try.prog 35 #[.pointer (some ⟨h, 0, none⟩), .int .i64 k] w fun e w' =>
      e = .returned (.tuple #[.slice (some ⟨b, off, none⟩) k c, .bool true]) ∧ w.setCell ⟨h, 0, none⟩ (.slice (if c = k then some ⟨b, off, none⟩ else some ⟨b, off + k, none⟩) (n - k) (c - k)) = w' := by
  have hc := cell_of_block hb 0
  have hf := frozen_of_block hb 0
  simp only [List.getElem?_toArray, List.getElem?_cons_zero] at hc
  clear hb
  go_enter Try.func35, Try.ntmps35
  go_wp2_with fail
  all_goals (go_ret2; exact ⟨rfl, rfl⟩)

theorem rd_cut {w : World} {k : IntKind} {b off n c m : Nat} {xs ys : List Int} (h : Rd w k (.slice (some ⟨b, off, none⟩) n c) (xs ++ ys)) (hm : xs.length = m) :
    Rd w k (.slice (if c = m then some ⟨b, off, none⟩ else some ⟨b, off + m, none⟩) ys.length (c - m)) ys := by
  subst hm
  split
  · rename_i hcm
    obtain ⟨A, c', he, h1, h2, h3, h4⟩ := h
    injection he with e1 e2 e3
    subst e1 e3
    rw [List.length_append] at h1
    obtain rfl : ys = [] := List.eq_nil_of_length_eq_zero (by omega)
    exact ⟨_, _, rfl, by simp, by omega, fun hne => absurd rfl hne, fun e => by cases e⟩
  · exact rd_right h

/-- A store into a block keeps a slice that lies elsewhere. -/
theorem Rd.other {w : World} {k : IntKind} {A : Option Addr} {n c : Nat} {xs : List Int} {a : Addr} (h : Rd w k (.slice A n c) xs) (ha : ∀ ad, A = some ad → ad.block < a.block) (u : Value) : Rd (w.setCell a u) k (.slice A n c) xs := by
  obtain ⟨A', c', he, h1, h2, h3, h4⟩ := h
  cases he
  refine ⟨_, _, rfl, h1, h2, fun hne => ?_, h4⟩
  obtain ⟨b, off, hA, hc⟩ := h3 hne
  refine ⟨b, off, hA, fun j u hu => ?_⟩
  have hlt := ha _ hA
  rw [World.cell?_of_block (Below.heap_setCell w a _ b (Nat.ne_of_lt hlt))]
  exact hc j u hu

theorem heap_setCell_at {w : World} {g j : Nat} {cs : Array Value} {t : TypeId} {fr : Nat × Nat} (h : w.heap[g]? = some (.cells cs t fr)) (u : Value) : (w.setCell ⟨g, j, none⟩ u).heap[g]? = some (.cells (cs.setIfInBounds j u) t fr) := by
  simp [World.setCell, Array.getElem?_modify, h]

theorem RdS.setErr {p : Nat → Prop} {w : World} {g : Nat} {xs : List Int} {e : Int} (h : RdS p w g xs e) (e' : Int) : RdS p (w.setCell ⟨g, 1, none⟩ (.int .i64 e')) g xs e' := by
  obtain ⟨A, c, hb, hr, ha⟩ := h
  refine ⟨A, c, ?_, Rd.other hr (fun ad e => (ha ad e).1) _, ha⟩
  rw [heap_setCell_at hb]
  rfl

theorem RdS.setBytes {p : Nat → Prop} {w : World} {g : Nat} {xs ys : List Int} {e : Int} {A : Option Addr} {n c : Nat} (h : RdS p w g xs e) (hn : n = ys.length) (hr : Rd w .u8 (.slice A n c) ys) (ha : ∀ ad, A = some ad → ad.block < g ∧ p ad.block) : RdS p (w.setCell ⟨g, 0, none⟩ (.slice A n c)) g ys e := by
  obtain ⟨A0, c0, hb, _, _⟩ := h
  subst hn
  refine ⟨A, c, ?_, Rd.other hr (fun ad e => (ha ad e).1) _, ha⟩
  rw [heap_setCell_at hb]
  rfl

theorem setCell_grown {w w1 : World} (h : Ext w w1) (a : Addr) (u : Value) : w.grownBy (w1.setCell a u) (some a.block) :=
  ⟨h.os, h.tape, h.output, by simp [World.setCell]; exact h.size, fun k hk hne => (Below.heap_setCell w1 a u k (fun e => hne (by rw [e]))).trans (h.block k hk)⟩

set_option maxHeartbeats 400000 in
theorem number_failed {p : Nat → Prop} (g : Nat) (xs : List Int) (er : Int) (k : Nat) (w : World) (hR : RdS p w g xs er) (he : er ≠ 0) :
    Calls Try.prog 32 #[.pointer (some ⟨g, 0, none⟩), .int .i64 k] w fun e w' => e = .returned (.int .u64 0) ∧ w = w' := by
  obtain ⟨A, c, hb, _, _⟩ := hR
  have hc := cell_of_block hb 1
  simp only [List.getElem?_toArray, List.getElem?_cons_succ, List.getElem?_cons_zero] at hc
  have hne : (er != 0) = true := bne_iff_ne.2 he
  clear hb
  go_enter Try.func32, Try.ntmps32
  go_wp2_with fail
  go_ret
  exact ⟨rfl, rfl⟩

set_option maxHeartbeats 400000 in
theorem number_short {p : Nat → Prop} (g : Nat) (xs : List Int) (k : Nat) (w : World) (hR : RdS p w g xs 0) (hk : xs.length < k) :
    Calls Try.prog 32 #[.pointer (some ⟨g, 0, none⟩), .int .i64 k] w fun e w' => e = .returned (.int .u64 0) ∧ RdS p w' g xs 3 ∧ w.grownBy w' (some g) := by
  obtain ⟨A, c, hb, hr, ha⟩ := hR
  have hc0 := cell_of_block hb 0
  have hc1 := cell_of_block hb 1
  have hf := frozen_of_block hb 1
  simp only [List.getElem?_toArray, List.getElem?_cons_succ, List.getElem?_cons_zero] at hc0 hc1
  have Hb := Lib.hid hb
  have Hr := Lib.hid hr
  clear hb hr
  go_enter Try.func32, Try.ntmps32
  go_wp2_with fail
  refine (rowTake_short w.heap.size A xs.length c k _ (heap_alloc_new w _) hk).mono ?_
  rintro e w1 ⟨rfl, hw1⟩
  have hE : Ext w w1 := hw1 ▸ (Ext.refl w).alloc _
  have d1 := hE.cell hc1
  have Hb1 := Lib.hid (hE.heap Hb.out)
  have df := frozen_of_block Hb1.out 1
  clear hc0 hc1 hf hw1
  go_wp2_with fail
  go_ret
  exact ⟨rfl, RdS.setErr ⟨A, c, Hb1.out, Hr.out.ext hE, ha⟩ 3, setCell_grown hE _ _⟩

set_option maxHeartbeats 400000 in
theorem number_long {p : Nat → Prop} (g : Nat) (xs ys : List Int) (k : Nat) (w : World) (hR : RdS p w g (xs ++ ys) 0) (hk : xs.length = k) (h0 : 0 < k) (h8 : k ≤ 8) (hx : ∀ x ∈ xs, 0 ≤ x ∧ x < 256) :
    Calls Try.prog 32 #[.pointer (some ⟨g, 0, none⟩), .int .i64 k] w fun e w' => e = .returned (.int .u64 (leVal xs)) ∧ RdS p w' g ys 0 ∧ w.grownBy w' (some g) := by
  obtain ⟨A, c, hb, hr, ha⟩ := hR
  obtain ⟨b, off, c', he, hcc, hcm, hcell⟩ := Rd.pos hr (by rw [List.length_append]; omega)
  cases he
  have hbg := ha _ rfl
  have hcut := rd_cut hr hk
  have hfront := rd_left hr
  rw [List.length_append, hk] at hb hcc
  rw [hk] at hfront
  unfold maxLen at hcm
  have hc0 := cell_of_block hb 0
  have hc1 := cell_of_block hb 1
  have hf := frozen_of_block hb 0
  simp only [List.getElem?_toArray, List.getElem?_cons_succ, List.getElem?_cons_zero] at hc0 hc1
  have Hb := Lib.hid hb
  have Hr := Lib.hid hr
  have Hk := Lib.hid hk
  have Hcut := Lib.hid hcut
  have Hfront := Lib.hid hfront
  clear hb hr ha hk hcut hfront hcell
  go_enter Try.func32, Try.ntmps32
  go_wp2_with fail
  refine (rowTake_long w.heap.size b off (k + ys.length) c k _ (heap_alloc_new w _) (by omega) hcc hcm).mono ?_
  rintro e w1 ⟨rfl, hw1⟩
  obtain ⟨A2, hA2⟩ : ∃ A2, (if c = k then (some ⟨b, off, none⟩ : Option Addr) else some ⟨b, off + k, none⟩) = A2 := ⟨_, rfl⟩
  rw [hA2] at hw1
  have hcut := Hcut.out
  rw [hA2] at hcut
  have ha2 : ∀ ad, A2 = some ad → ad.block < g ∧ p ad.block := by intro ad e; rw [← hA2] at e; split at e <;> cases e <;> exact hbg
  have hel : k + ys.length - k = ys.length := by omega
  rw [hel] at hw1
  have hE : Ext w w1 := hw1 ▸ ((Ext.refl w).alloc _).setCell (Nat.le_refl _) _
  have dh : w1.cell? ⟨w.heap.size, 0, none⟩ = some (.slice A2 ys.length (c - k)) := by
    rw [← hw1, cell_of_block (heap_setCell_at (heap_alloc_new w _) _)]; rfl
  have d0 := hE.cell hc0
  have d1 := hE.cell hc1
  have Hb1 := Lib.hid (hE.heap Hb.out)
  have df := frozen_of_block Hb1.out 0
  have HA2 := Lib.hid hA2
  have Hcut1 := Lib.hid hcut
  clear hc0 hc1 hf hw1 hel hA2 hcut
  go_wp2_with fail
  obtain ⟨w2, hw2⟩ : ∃ w2, w1.setCell ⟨g, 0, none⟩ (.slice A2 ys.length (c - k)) = w2 := ⟨_, rfl⟩
  have hR2 : RdS p w2 g ys 0 := by
    rw [← hw2]
    exact RdS.setBytes (xs := xs ++ ys) ⟨some ⟨b, off, none⟩, c, by rw [List.length_append, Hk.out]; exact Hb1.out, Hr.out.ext hE, fun ad e => by cases e; exact hbg⟩ rfl (Hcut1.out.ext hE) ha2
  have hG2 : w.grownBy w2 (some g) := by rw [← hw2]; exact setCell_grown hE _ _
  have hF2 : Rd w2 .u8 (.slice (some ⟨b, off, none⟩) k c) xs := by rw [← hw2]; exact Rd.other (Hfront.out.ext hE) (fun ad e => by cases e; exact hbg.1) _
  rw [hw2]
  have Hcell := Lib.hid (Rd.at hF2)
  have HR2 := Lib.hid hR2
  have HG2 := Lib.hid hG2
  clear hR2 hG2 hF2 hw2 d0 d1 dh df hE ha2
  go_loop [9, 10, 11, 41] (fun v _ _ i => ∃ j : Nat, j ≤ k ∧ i = .int .i64 j ∧ v = .int .u64 (leVal (xs.take j))) (fun _ _ _ i => k - (intOf i).toNat)
  case atStart => exact ⟨0, Nat.zero_le _, rfl, rfl⟩
  case round =>
    obtain ⟨j, hj, rfl, rfl⟩ := hrel
    by_cases hlt : j < k
    · have hcell := Hcell.out j (by rw [Hk.out]; exact hlt)
      obtain ⟨q, hq⟩ : ∃ q, xs.getD j 0 = q := ⟨_, rfl⟩
      rw [hq] at hcell
      have htake : xs.take (j + 1) = xs.take j ++ [q] := by
        rw [List.take_succ_eq_append_getElem (by rw [Hk.out]; exact hlt), ← hq]
        simp [List.getD_eq_getElem?_getD, List.getElem?_eq_getElem (show j < xs.length by rw [Hk.out]; exact hlt)]
      have Htake := Lib.hid htake
      clear htake
      have hq0 : 0 ≤ q ∧ q < 256 := by
        rw [← hq, List.getD_eq_getElem?_getD, List.getElem?_eq_getElem (show j < xs.length by rw [Hk.out]; exact hlt)]
        exact hx _ (List.getElem_mem _)
      have Hq := Lib.hid hq
      clear hq
      obtain ⟨L, hL⟩ : ∃ L, leVal (xs.take j) = L := ⟨_, rfl⟩
      have HL := Lib.hid hL
      rw [hL]
      clear hL
      obtain ⟨hq1, hq2⟩ := hq0
      have hjl : (xs.take j).length = j := by rw [List.length_take, Hk.out]; omega
      have hLr := leVal_range (xs.take j) (fun x hx' => hx x (List.mem_of_mem_take hx'))
      rw [HL.out, hjl, pow256] at hLr
      obtain ⟨hL1, hL2⟩ := hLr
      have HL2 := Lib.hid hL2
      have Hjl := Lib.hid hjl
      clear hL2 hjl
      go_wp2_with fail
      go_round
      case rel => exact ⟨j + 1, by omega, by go_num, by rw [or_high L q j hL1 HL2.out hq1 hq2 (by omega), Htake.out, leVal_snoc, HL.out, Hjl.out, pow256]⟩
      case measure => simp [intOf]; omega
    · obtain rfl : j = k := by omega
      go_wp2_with fail
      go_ret
      exact ⟨by rw [List.take_of_length_le (by rw [Hk.out]; exact Nat.le_refl _)]; rfl, HR2.out, HG2.out⟩

/-- What reading a number of k bytes gives: the number; what is left; the error. -/
def readF (k : Nat) (xs : List Int) (e : Int) : Int × List Int × Int :=
  if e ≠ 0 then (0, xs, e) else if xs.length < k then (0, xs, 3) else (leVal (xs.take k), xs.drop k, 0)

theorem number_calls {p : Nat → Prop} (g : Nat) (xs : List Int) (er : Int) (k : Nat) (w : World) (hR : RdS p w g xs er) (h0 : 0 < k) (h8 : k ≤ 8) (hx : ∀ x ∈ xs, 0 ≤ x ∧ x < 256) :
    Calls Try.prog 32 #[.pointer (some ⟨g, 0, none⟩), .int .i64 k] w fun e w' => e = .returned (.int .u64 (readF k xs er).1) ∧ RdS p w' g (readF k xs er).2.1 (readF k xs er).2.2 ∧ w.grownBy w' (some g) := by
  by_cases he : er ≠ 0
  · refine (number_failed g xs er k w hR he).mono ?_
    rintro e w' ⟨rfl, rfl⟩
    rw [readF, if_pos he]
    exact ⟨rfl, hR, World.grownBy.refl _ _⟩
  · obtain rfl : er = 0 := by omega
    by_cases hk : xs.length < k
    · refine (number_short g xs k w hR hk).mono ?_
      rintro e w' ⟨rfl, h⟩
      rw [readF, if_neg he, if_pos hk]
      exact ⟨rfl, h⟩
    · have hl : (xs.take k).length = k := by rw [List.length_take]; omega
      have := number_long g (xs.take k) (xs.drop k) k w (by rw [List.take_append_drop]; exact hR) hl h0 h8 (fun x h => hx x (List.mem_of_mem_take h))
      refine this.mono ?_
      rintro e w' ⟨rfl, h⟩
      rw [readF, if_neg he, if_neg hk]
      exact ⟨rfl, h⟩

theorem RByte_calls {p : Nat → Prop} (g : Nat) (xs : List Int) (er : Int) (w : World) (hR : RdS p w g xs er) (hx : ∀ x ∈ xs, 0 ≤ x ∧ x < 256) :
    Calls Try.prog 23 #[.pointer (some ⟨g, 0, none⟩)] w fun e w' => e = .returned (.int .i64 (IntKind.i64.wrap (readF 1 xs er).1)) ∧ RdS p w' g (readF 1 xs er).2.1 (readF 1 xs er).2.2 ∧ w.grownBy w' (some g) := by
  have H := Lib.hid hR
  have Hx := Lib.hid hx
  clear hR hx
  go_enter Try.func23, Try.ntmps23
  go_wp2_with fail
  refine (number_calls g xs er 1 w H.out (by decide) (by decide) Hx.out).mono ?_
  rintro e w1 ⟨rfl, hR, hG⟩
  go_wp2_with fail
  go_ret
  exact ⟨by simp [IntKind.wrap_i64, wrap64], hR, hG⟩

theorem RInt_calls {p : Nat → Prop} (g : Nat) (xs : List Int) (er : Int) (w : World) (hR : RdS p w g xs er) (hx : ∀ x ∈ xs, 0 ≤ x ∧ x < 256) :
    Calls Try.prog 22 #[.pointer (some ⟨g, 0, none⟩)] w fun e w' => e = .returned (.int .i64 (IntKind.i64.wrap (readF 8 xs er).1)) ∧ RdS p w' g (readF 8 xs er).2.1 (readF 8 xs er).2.2 ∧ w.grownBy w' (some g) := by
  have H := Lib.hid hR
  have Hx := Lib.hid hx
  clear hR hx
  go_enter Try.func22, Try.ntmps22
  go_wp2_with fail
  refine (number_calls g xs er 8 w H.out (by decide) (by decide) Hx.out).mono ?_
  rintro e w1 ⟨rfl, hR, hG⟩
  go_wp2_with fail
  go_ret
  exact ⟨by simp [IntKind.wrap_i64, wrap64], hR, hG⟩

def endF (xs : List Int) (e : Int) : Int := if e = 0 ∧ 0 < xs.length then 4 else e

set_option maxHeartbeats 400000 in
theorem REnd_calls {p : Nat → Prop} (g : Nat) (xs : List Int) (er : Int) (w : World) (hR : RdS p w g xs er) :
    Calls Try.prog 24 #[.pointer (some ⟨g, 0, none⟩)] w fun e w' => e = .returned (.int .i64 (endF xs er)) ∧ w = w' := by
  obtain ⟨A, c, hb, _, _⟩ := hR
  have hc0 := cell_of_block hb 0
  have hc1 := cell_of_block hb 1
  simp only [List.getElem?_toArray, List.getElem?_cons_succ, List.getElem?_cons_zero] at hc0 hc1
  clear hb
  by_cases he : er = 0
  · subst he
    by_cases hl : 0 < xs.length
    · go_enter Try.func24, Try.ntmps24
      go_wp2_with fail
      go_ret
      exact ⟨by simp [endF, hl], rfl⟩
    · have hl0 : xs.length = 0 := by omega
      rw [hl0] at hc0
      go_enter Try.func24, Try.ntmps24
      go_wp2_with fail
      go_ret
      exact ⟨by simp [endF, hl0], rfl⟩
  · have hb1 : (er == 0) = false := beq_eq_false_iff_ne.2 he
    go_enter Try.func24, Try.ntmps24
    go_wp2_with fail
    go_ret
    exact ⟨by simp [endF, he], rfl⟩

def failF (e e' : Int) : Int := if e = 0 then e' else e

theorem RdC.same {w w' : World} {A : Option Addr} {n c m : Nat} {cs : List Value} (h : RdC w (.slice A n c) m cs) (hs : ∀ ad, A = some ad → w'.heap[ad.block]? = w.heap[ad.block]?) : RdC w' (.slice A n c) m cs := by
  obtain ⟨A', c', he, h1, h2, h3, h4⟩ := h
  injection he with e1 e2 e3
  subst e1
  refine ⟨A, c', by rw [e2, e3], h1, h2, fun hne => ?_, h4⟩
  obtain ⟨b, off, hA, hc⟩ := h3 hne
  exact ⟨b, off, hA, fun j u hu => (World.cell?_of_block (a := ⟨b, off + j, none⟩) (show w'.heap[b]? = w.heap[b]? from hs _ hA)).trans (hc j u hu)⟩

theorem RdS.lt {p : Nat → Prop} {w : World} {g : Nat} {xs : List Int} {e : Int} (h : RdS p w g xs e) : g < w.heap.size := by
  obtain ⟨A, c, hb, _⟩ := h
  exact (Array.getElem?_eq_some_iff.1 hb).1

/-- A reader lives on where only later blocks are written. -/
theorem RdS.keep {p : Nat → Prop} {w w' : World} {g g' : Nat} {xs : List Int} {e : Int} (h : RdS p w g xs e) (hG : w.grownBy w' (some g')) (hg : g < g') : RdS p w' g xs e := by
  have hlt := h.lt
  obtain ⟨A, c, hb, hr, ha⟩ := h
  refine ⟨A, c, ?_, RdC.same hr (fun ad he => ?_), ha⟩
  · rw [hG.block g hlt (fun e => by injection e; omega)]; exact hb
  · have := (ha ad he).1
    exact hG.block _ (by omega) (fun e => by injection e; omega)

/-- A reader lives on where another block is written, in which its bytes do not lie. -/
theorem RdS.apart {p : Nat → Prop} {w w' : World} {g g' : Nat} {xs : List Int} {e : Int} (h : RdS p w g xs e) (hG : w.grownBy w' (some g')) (hg : g ≠ g') (hp : ∀ b, p b → b ≠ g') : RdS p w' g xs e := by
  have hlt := h.lt
  obtain ⟨A, c, hb, hr, ha⟩ := h
  refine ⟨A, c, ?_, RdC.same hr (fun ad he => ?_), ha⟩
  · rw [hG.block g hlt (fun e => by injection e; omega)]; exact hb
  · have h1 := (ha ad he).1
    have h2 := hp _ (ha ad he).2
    exact hG.block _ (by omega) (fun e => by injection e; omega)

theorem RdS.weaken {p q : Nat → Prop} {w : World} {g : Nat} {xs : List Int} {e : Int} (h : RdS p w g xs e) (hq : ∀ b, p b → q b) : RdS q w g xs e := by
  obtain ⟨A, c, hb, hr, ha⟩ := h
  exact ⟨A, c, hb, hr, fun ad he => ⟨(ha ad he).1, hq _ (ha ad he).2⟩⟩

theorem RdS.ext {p : Nat → Prop} {w w' : World} {g : Nat} {xs : List Int} {e : Int} (h : RdS p w g xs e) (hE : Ext w w') : RdS p w' g xs e := by
  obtain ⟨A, c, hb, hr, ha⟩ := h
  exact ⟨A, c, hE.heap hb, hr.ext hE, ha⟩

/-- A number from 0 to n - 1. -/
theorem within_calls (a n : Int) (w : World) (hn : 0 < n) (hn2 : n ≤ 1000000) (ha : -9223372036854775808 ≤ a ∧ a ≤ 9223372036854775807) :
    Calls Try.prog 13 #[.int .i64 a, .int .i64 n] w fun e w' => e = .returned (.int .i64 (a % n)) ∧ w = w' := by
  have hne : (n == 0) = false := beq_eq_false_iff_ne.2 (by omega)
  have hr : -1000000 ≤ a.tmod n ∧ a.tmod n ≤ 1000000 := by
    have h1 := Int.tmod_lt_of_pos a hn
    have h2 : -n < a.tmod n := by
      rcases Int.le_total 0 a with h | h
      · have := Int.tmod_nonneg n h; omega
      · have h3 := Int.tmod_lt_of_pos (-a) hn
        rw [Int.neg_tmod] at h3
        omega
    omega
  have hfin : a % n = if a.tmod n < 0 then a.tmod n + n else a.tmod n := by
    rw [Int.emod_eq_tmod]
    have habs : (n.natAbs : Int) = n := Int.natAbs_of_nonneg (by omega)
    by_cases h : a.tmod n < 0
    · have hna : ¬ (0 ≤ a ∨ n ∣ a) := by
        rintro (h' | h')
        · have := Int.tmod_nonneg n h'; omega
        · have := Int.tmod_eq_zero_of_dvd h'; omega
      rw [if_neg hna, if_pos h, habs]
    · have hna : 0 ≤ a ∨ n ∣ a := by
        rcases Int.le_total 0 a with h' | h'
        · exact .inl h'
        · refine .inr (Int.dvd_of_tmod_eq_zero ?_)
          have := Int.tmod_nonneg n (show 0 ≤ -a by omega)
          rw [Int.neg_tmod] at this
          omega
      rw [if_pos hna, if_neg h]
      simp
  obtain ⟨a1, a2⟩ := ha
  obtain ⟨r1, r2⟩ := hr
  have Hfin := Lib.hid hfin
  clear hfin
  by_cases h : a.tmod n < 0
  · go_enter Try.func13, Try.ntmps13
    go_wp2_with fail
    go_ret
    exact ⟨by rw [Hfin.out, if_pos (by omega)]; first | rfl | (simp [wrap64]; done) | (simp [wrap64]; omega), rfl⟩
  · go_enter Try.func13, Try.ntmps13
    go_wp2_with fail
    go_ret
    exact ⟨by rw [Hfin.out, if_neg (by omega)]; rfl, rfl⟩

theorem bytes_range {xs : List Int} (h : ∀ n ∈ xs, (Lit.int .u8 n).wf = true) : ∀ x ∈ xs, 0 ≤ x ∧ x < 256 := by
  intro x hx
  have := bounds_u8 (h x hx)
  omega

/-- From w on, in blocks that are new since w0 alone. -/
theorem Ext.grownBy {w0 w w' : World} {g : Nat} (h : Ext w0 w) (hG : w.grownBy w' (some g)) (hg : w0.heap.size ≤ g) : Ext w0 w' :=
  Below.grown h hG h.size (fun k e => by cases e; exact hg)

end Go.Proofs.Ytmbjebdkhcpclaa
