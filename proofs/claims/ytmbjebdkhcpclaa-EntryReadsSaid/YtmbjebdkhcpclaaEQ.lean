/-
  Contracts of the document's reader.
-/
import Derived.Test.YtmbjebdkhcpclaaER
import Derived.Deep.QuietTactic
import Derived.BigQuiet
import Derived.WalkSmall
set_option linter.unusedSimpArgs false
set_option linter.unusedVariables false
namespace Go.Proofs.Ytmbjebdkhcpclaa
open Go.RowKit

theorem Ext.drewN {a b : World} (h : Ext a b) (n : Nat) : Ext a (b.drewN n) := below_drewN h n

set_option maxHeartbeats 1000000 in
theorem take_failed (x : Nat) (A : Option Addr) (n c k m : Nat) (er : Int) (w : World) (hb : w.heap[x]? = some (.cells #[.slice A n c, .int .i64 k, .int .i64 er] 64 (0, 0))) (he : er ≠ 0) :
    Calls Try.prog 33 #[.pointer (some ⟨x, 0, none⟩), .int .i64 m] w fun e w' => e = .returned (.slice none 0 0) ∧ Ext w w' := by
  have hc2 := cell_of_block hb 2
  simp only [List.getElem?_toArray, List.getElem?_cons_zero, List.getElem?_cons_succ] at hc2
  have h1 : (er == 0) = false := beq_eq_false_iff_ne.2 he
  have h2 : (er != 0) = true := bne_iff_ne.2 he
  clear hb
  go_enter Try.func33, Try.ntmps33
  go_wp2_with fail
  go_quiet (fail)
  go_wp2_with fail
  go_ret
  exact ⟨rfl, (Ext.refl w).drewN _⟩

set_option maxHeartbeats 1000000 in
theorem take_short (x : Nat) (A : Option Addr) (n c k m : Nat) (w : World) (hb : w.heap[x]? = some (.cells #[.slice A n c, .int .i64 k, .int .i64 0] 64 (0, 0))) (hk : k ≤ n) (hn : n ≤ 1000000) (hm : n < k + m) (hm8 : m ≤ 8) :
    Calls Try.prog 33 #[.pointer (some ⟨x, 0, none⟩), .int .i64 m] w fun e w' => e = .returned (.slice none 0 0) ∧ ∃ w1, Ext w w1 ∧ w' = w1.setCell ⟨x, 2, none⟩ (.int .i64 3) := by
  have hc0 := cell_of_block hb 0
  have hc1 := cell_of_block hb 1
  have hc2 := cell_of_block hb 2
  have hf := frozen_of_block hb 2
  simp only [List.getElem?_toArray, List.getElem?_cons_zero, List.getElem?_cons_succ] at hc0 hc1 hc2
  have h1 : (0 : Int) ≤ (n : Int) - k := by omega
  have h2 : (n : Int) - k < m := by omega
  have h3 : IntKind.i64.wrap ((n : Int) - k) = (n : Int) - k := by rw [IntKind.wrap_i64]; omega
  have H3 := Lib.hid h3
  clear hb h3
  go_enter Try.func33, Try.ntmps33
  go_wp2_with fail
  have h3 := H3.out
  go_quiet (fail)
  clear h3
  go_wp2_with fail
  go_ret
  exact ⟨rfl, _, (Ext.refl w).drewN _, rfl⟩

set_option maxHeartbeats 1000000 in
theorem take_long (x b off n c k m : Nat) (w : World) (hb : w.heap[x]? = some (.cells #[.slice (some ⟨b, off, none⟩) n c, .int .i64 k, .int .i64 0] 64 (0, 0))) (hn : n ≤ 1000000) (hm : k + m ≤ n) (hm0 : 0 < m) (hm8 : m ≤ 8) (hnc : n ≤ c) (hcm : c ≤ maxLen) :
    Calls Try.prog 33 #[.pointer (some ⟨x, 0, none⟩), .int .i64 m] w fun e w' => e = .returned (.slice (some ⟨b, off + k, none⟩) m (c - k)) ∧ ∃ w1, Ext w w1 ∧ Ext (w1.setCell ⟨x, 1, none⟩ (.int .i64 (k + m))) w' := by
  have hc0 := cell_of_block hb 0
  have hc1 := cell_of_block hb 1
  have hc2 := cell_of_block hb 2
  have hf := frozen_of_block hb 1
  simp only [List.getElem?_toArray, List.getElem?_cons_zero, List.getElem?_cons_succ] at hc0 hc1 hc2
  have h1 : (0 : Int) ≤ (n : Int) - k := by omega
  have h2 : ¬ (n : Int) - k < m := by omega
  have h2' : decide ((n : Int) - k < m) = false := by simpa using h2
  have h3 : IntKind.i64.wrap ((n : Int) - k) = (n : Int) - k := by rw [IntKind.wrap_i64]; omega
  have h4 : IntKind.i64.wrap ((k : Int) + m - m) = (k : Int) := by rw [IntKind.wrap_i64]; omega
  have Hb := Lib.hid hb
  have H3 := Lib.hid h3
  have H4 := Lib.hid h4
  clear hb h3 h4
  unfold maxLen at hcm
  go_enter Try.func33, Try.ntmps33
  go_wp2_with fail
  have h3 := H3.out
  go_quiet (fail)
  clear h3 h1 h2 h2'
  go_wp2_with fail
  obtain ⟨w1, hw1⟩ : ∃ w1, w.drewN nq = w1 := ⟨_, rfl⟩
  have hE1 : Ext w w1 := hw1 ▸ (Ext.refl w).drewN _
  obtain ⟨w2, hw2⟩ : ∃ w2, w1.setCell ⟨x, 1, none⟩ (.int .i64 (k + m)) = w2 := ⟨_, rfl⟩
  have hb2 : w2.heap[x]? = some (.cells #[.slice (some ⟨b, off, none⟩) n c, .int .i64 (k + m), .int .i64 0] 64 (0, 0)) := by
    rw [← hw2, heap_setCell_at (hE1.heap Hb.out)]; rfl
  rw [hw1, hw2]
  have hE2 : Ext w1 w1 := Ext.refl _
  have Hw2 := Lib.hid hw2
  clear hc0 hc1 hc2 hf hw1 hw2
  have hc0 := cell_of_block hb2 0
  have hc1 := cell_of_block hb2 1
  simp only [List.getElem?_toArray, List.getElem?_cons_zero, List.getElem?_cons_succ] at hc0 hc1
  have hck : (c == k) = false := beq_eq_false_iff_ne.2 (by omega)
  clear hb2
  have h4 := H4.out
  go_quiet (fail)
  clear h4
  go_wp2_with fail
  go_ret
  exact ⟨by show Ending.returned (.slice (some ⟨b, off + k, none⟩) (k + m - k) (c - k)) = _; rw [Nat.add_sub_cancel_left], w1, hE1, by rw [Hw2.out]; exact (Ext.refl w2).drewN _⟩

/-- A reader of the document at block x: what it has still to read, its error; its bytes lie in an elder block, of which something is known. -/
def RfS (p : Nat → Prop) (w : World) (x : Nat) (xs : List Int) (e : Int) : Prop :=
  ∃ A c ys k, w.heap[x]? = some (.cells #[.slice A ys.length c, .int .i64 (k : Nat), .int .i64 e] 64 (0, 0)) ∧ Rd w .u8 (.slice A ys.length c) ys ∧ k ≤ ys.length ∧ ys.drop k = xs ∧ ys.length ≤ 1000000 ∧ (∀ ad, A = some ad → ys ≠ [] → ad.block < x ∧ p ad.block)

theorem rd_none {w w' : World} {k : IntKind} {A : Option Addr} {n c : Nat} (h : Rd w k (.slice A n c) []) : Rd w' k (.slice A n c) [] := by
  obtain ⟨A', c', he, h1, h2, h3, h4⟩ := h
  exact ⟨A', c', he, h1, h2, fun hne => absurd rfl hne, h4⟩
theorem Rd.other2 {w : World} {k : IntKind} {A : Option Addr} {n c : Nat} {xs : List Int} {a : Addr} (h : Rd w k (.slice A n c) xs) (ha : ∀ ad, A = some ad → xs ≠ [] → ad.block < a.block) (u : Value) : Rd (w.setCell a u) k (.slice A n c) xs := by
  cases xs with
  | nil => exact rd_none h
  | cons y ys => exact Rd.other h (fun ad e => ha ad e (by simp)) u
theorem Rd.same2 {w w' : World} {k : IntKind} {A : Option Addr} {n c : Nat} {xs : List Int} (h : Rd w k (.slice A n c) xs) (hs : ∀ ad, A = some ad → xs ≠ [] → w'.heap[ad.block]? = w.heap[ad.block]?) : Rd w' k (.slice A n c) xs := by
  cases xs with
  | nil => exact rd_none h
  | cons y ys => exact RdC.same h (fun ad e => hs ad e (by simp))

theorem RfS.ext {p : Nat → Prop} {w w' : World} {x : Nat} {xs : List Int} {e : Int} (h : RfS p w x xs e) (hE : Ext w w') : RfS p w' x xs e := by
  obtain ⟨A, c, ys, k, hb, hr, h1, h2, h3, h4⟩ := h
  exact ⟨A, c, ys, k, hE.heap hb, hr.ext hE, h1, h2, h3, h4⟩

theorem RfS.lt {p : Nat → Prop} {w : World} {g : Nat} {xs : List Int} {e : Int} (h : RfS p w g xs e) : g < w.heap.size := by
  obtain ⟨A, c, ys, k, hb, _⟩ := h
  exact (Array.getElem?_eq_some_iff.1 hb).1

theorem RfS.apart {p : Nat → Prop} {w w' : World} {g g' : Nat} {xs : List Int} {e : Int} (h : RfS p w g xs e) (hG : w.grownBy w' (some g')) (hg : g ≠ g') (hp : ∀ b, p b → b ≠ g') : RfS p w' g xs e := by
  have hlt := h.lt
  obtain ⟨A, c, ys, k, hb, hr, h1, h2, h3, ha⟩ := h
  refine ⟨A, c, ys, k, ?_, Rd.same2 hr (fun ad he hne => ?_), h1, h2, h3, ha⟩
  · rw [hG.block g hlt (fun e => by injection e; omega)]; exact hb
  · have h1 := (ha ad he hne).1
    have h2 := hp _ (ha ad he hne).2
    exact hG.block _ (by omega) (fun e => by injection e; omega)

theorem RfS.setErr {p : Nat → Prop} {w : World} {g : Nat} {xs : List Int} {e : Int} (h : RfS p w g xs e) (e' : Int) : RfS p (w.setCell ⟨g, 2, none⟩ (.int .i64 e')) g xs e' := by
  obtain ⟨A, c, ys, k, hb, hr, h1, h2, h3, ha⟩ := h
  refine ⟨A, c, ys, k, ?_, Rd.other2 hr (fun ad e hne => (ha ad e hne).1) _, h1, h2, h3, ha⟩
  rw [heap_setCell_at hb]
  rfl

theorem grown_ext {w w1 w2 : World} {r : Option Nat} (h : w.grownBy w1 r) (hE : Ext w1 w2) : w.grownBy w2 r :=
  ⟨hE.os.trans h.os, hE.tape.trans h.tape, hE.output.trans h.output, Nat.le_trans h.size hE.size, fun i hi hne => (hE.block i (Nat.lt_of_lt_of_le hi h.size)).trans (h.block i hi hne)⟩

theorem ext_grown {w w1 : World} {r : Option Nat} (hE : Ext w w1) : w.grownBy w1 r :=
  ⟨hE.os, hE.tape, hE.output, hE.size, fun i hi _ => hE.block i hi⟩

/-- What taking m bytes gives. -/
theorem take_calls {p : Nat → Prop} (x : Nat) (xs : List Int) (er : Int) (m : Nat) (w : World) (hR : RfS p w x xs er) (hm0 : 0 < m) (hm8 : m ≤ 8) :
    Calls Try.prog 33 #[.pointer (some ⟨x, 0, none⟩), .int .i64 m] w fun e w' =>
      (∃ v, e = .returned v ∧ Rd w' .u8 v (if er ≠ 0 ∨ xs.length < m then [] else xs.take m)) ∧ RfS p w' x (readF m xs er).2.1 (readF m xs er).2.2 ∧ w.grownBy w' (some x) := by
  obtain ⟨A, c, ys, k, hb, hr, h1, h2, h3, ha⟩ := hR
  have hl : xs.length = ys.length - k := by rw [← h2, List.length_drop]
  by_cases he : er ≠ 0
  · refine (take_failed x A ys.length c k m er w hb he).mono ?_
    rintro e w' ⟨rfl, hE⟩
    rw [readF, if_pos he, if_pos (.inl he)]
    exact ⟨⟨_, rfl, ownsRow.reads (own_nil w' 0 5 1)⟩, RfS.ext ⟨A, c, ys, k, hb, hr, h1, h2, h3, ha⟩ hE, ext_grown hE⟩
  · obtain rfl : er = 0 := by omega
    by_cases hk : xs.length < m
    · refine (take_short x A ys.length c k m w hb h1 h3 (by omega) hm8).mono ?_
      rintro e w' ⟨rfl, w1, hE, rfl⟩
      rw [readF, if_neg he, if_pos hk, if_pos (.inr hk)]
      exact ⟨⟨_, rfl, ownsRow.reads (own_nil _ 0 5 1)⟩, RfS.setErr (RfS.ext ⟨A, c, ys, k, hb, hr, h1, h2, h3, ha⟩ hE) 3, setCell_grown hE _ _⟩
    · obtain ⟨b, off, c', he', hcc, hcm, hcell⟩ := Rd.pos hr (by omega)
      cases he'
      refine (take_long x b off ys.length c k m w hb h3 (by omega) hm0 hm8 hcc hcm).mono ?_
      rintro e w' ⟨rfl, w1, hE, hE2⟩
      rw [readF, if_neg he, if_neg hk, if_neg (by omega)]
      have hR1 : Rd (w1.setCell ⟨x, 1, none⟩ (.int .i64 (k + m))) .u8 (.slice (some ⟨b, off, none⟩) ys.length c) ys := Rd.other2 (hr.ext hE) (fun ad e hne => (ha ad e hne).1) _
      have hsp : ys = ys.take k ++ xs := by rw [← h2, List.take_append_drop]
      have hlk : (ys.take k).length = k := by rw [List.length_take]; omega
      have hR2 := hR1
      rw [hsp] at hR2
      have hR3 := rd_right hR2
      rw [hlk] at hR3
      have hR4 : Rd (w1.setCell ⟨x, 1, none⟩ (.int .i64 (k + m))) .u8 (.slice (some ⟨b, off + k, none⟩) m (c - k)) (xs.take m) := by
        have hlm : (xs.take m).length = m := by rw [List.length_take]; omega
        have := rd_left (ys := xs.drop m) (xs := xs.take m) (by rw [List.take_append_drop]; exact hR3)
        rwa [hlm] at this
      refine ⟨⟨_, rfl, hR4.ext hE2⟩, RfS.ext ⟨some ⟨b, off, none⟩, c, ys, k + m, ?_, hR1, by omega, by rw [← List.drop_drop, h2], h3, ha⟩ hE2, grown_ext (setCell_grown hE _ _) hE2⟩
      rw [heap_setCell_at (hE.heap hb)]
      simp

set_option maxHeartbeats 400000 in
theorem QByte_calls {p : Nat → Prop} (x : Nat) (xs : List Int) (er : Int) (w : World) (hR : RfS p w x xs er) (hx : ∀ q ∈ xs, 0 ≤ q ∧ q < 256) :
    Calls Try.prog 28 #[.pointer (some ⟨x, 0, none⟩)] w fun e w' => e = .returned (.int .i64 (IntKind.i64.wrap (readF 1 xs er).1)) ∧ RfS p w' x (readF 1 xs er).2.1 (readF 1 xs er).2.2 ∧ w.grownBy w' (some x) := by
  have H := Lib.hid hR
  have Hx := Lib.hid hx
  clear hR hx
  go_enter Try.func28, Try.ntmps28
  go_wp2_with fail
  refine (take_calls x xs er 1 w H.out (by decide) (by decide)).mono ?_
  rintro e w1 ⟨⟨v, rfl, hV⟩, hR, hG⟩
  have HR := Lib.hid hR
  have HG := Lib.hid hG
  clear hR hG
  by_cases he : er ≠ 0 ∨ xs.length < 1
  · rw [if_pos he] at hV
    obtain ⟨A, c, rfl⟩ := hV.shape
    have hv0 : (readF 1 xs er).1 = 0 := by
      unfold readF
      rcases he with h | h
      · rw [if_pos h]
      · by_cases h' : er ≠ 0
        · rw [if_pos h']
        · rw [if_neg h', if_pos h]
    have Hv0 := Lib.hid hv0
    clear hV hv0
    go_wp2_with fail
    go_ret
    exact ⟨by rw [Hv0.out]; rfl, HR.out, HG.out⟩
  · rw [if_neg he] at hV
    cases xs with
    | nil => exact absurd (Or.inr (by decide)) he
    | cons y xs =>
      obtain ⟨b, off, c, rfl, hcc, hcm, hcell⟩ := Rd.pos hV (by simp)
      have hc0 := hcell 0 (by simp)
      have hv0 : (readF 1 (y :: xs) er).1 = y := by
        unfold readF
        rw [if_neg (fun h => he (.inl h)), if_neg (fun h => he (.inr h))]
        simp [leVal]
      have Hv0 := Lib.hid hv0
      have hy := Hx.out y (by simp)
      obtain ⟨hy1, hy2⟩ := hy
      simp only [List.take_succ_cons, List.take_zero, List.getD_cons_zero, Nat.add_zero] at hc0
      clear hV hv0 hcell
      simp only [List.take_succ_cons, List.take_zero, List.length_cons, List.length_nil, Nat.zero_add] at hcc
      simp only [List.take_succ_cons, List.take_zero, List.length_cons, List.length_nil, Nat.zero_add]
      go_wp2_with fail
      go_ret
      exact ⟨by rw [Hv0.out, show IntKind.i64.wrap y = y by rw [IntKind.wrap_i64]; omega]; rfl, HR.out, HG.out⟩

set_option maxHeartbeats 400000 in
theorem QEnd_calls {p : Nat → Prop} (g : Nat) (xs : List Int) (er : Int) (w : World) (hR : RfS p w g xs er) :
    Calls Try.prog 29 #[.pointer (some ⟨g, 0, none⟩)] w fun e w' => e = .returned (.int .i64 (endF xs er)) ∧ Ext w w' := by
  obtain ⟨A, c, ys, k, hb, hr, h1, h2, h3, ha⟩ := hR
  have hl : xs.length = ys.length - k := by rw [← h2, List.length_drop]
  have hc0 := cell_of_block hb 0
  have hc1 := cell_of_block hb 1
  have hc2 := cell_of_block hb 2
  simp only [List.getElem?_toArray, List.getElem?_cons_succ, List.getElem?_cons_zero] at hc0 hc1 hc2
  clear hb hr
  by_cases he : er = 0
  · subst he
    by_cases hk : k < ys.length
    · have hend : endF xs 0 = 4 := by rw [endF, if_pos ⟨rfl, by omega⟩]
      have Hend := Lib.hid hend
      have hki : (k : Int) < (ys.length : Int) := by omega
      clear hend
      go_enter Try.func29, Try.ntmps29
      go_wp2_with fail
      go_quiet (fail)
      go_wp2_with fail
      go_ret
      exact ⟨by rw [Hend.out]; rfl, (Ext.refl w).drewN _⟩
    · have hend : endF xs 0 = 0 := by rw [endF, if_neg (by omega)]
      have Hend := Lib.hid hend
      have hki : decide ((k : Int) < (ys.length : Int)) = false := by simp; omega
      clear hend
      go_enter Try.func29, Try.ntmps29
      go_wp2_with fail
      go_quiet (fail)
      go_wp2_with fail
      go_ret
      exact ⟨by rw [Hend.out]; rfl, (Ext.refl w).drewN _⟩
  · have hb1 : (er == 0) = false := beq_eq_false_iff_ne.2 he
    go_enter Try.func29, Try.ntmps29
    go_wp2_with fail
    go_quiet (fail)
    go_wp2_with fail
    go_ret
    exact ⟨by simp [endF, he], (Ext.refl w).drewN _⟩

set_option maxHeartbeats 400000 in
theorem QNew_calls {p : Nat → Prop} (A : Option Addr) (n c : Nat) (xs : List Int) (w : World) (hx : xs.length ≤ 1000000) (hr : Rd w .u8 (.slice A n c) xs) (hn : n = xs.length) (ha : ∀ ad, A = some ad → xs ≠ [] → ad.block < w.heap.size ∧ p ad.block) :
    Calls Try.prog 26 #[.slice A n c] w fun e w' => e = .returned (.pointer (some ⟨w.heap.size, 0, none⟩)) ∧ RfS p w' w.heap.size xs 0 ∧ w.heap.size < w'.heap.size ∧ Ext w w' := by
  subst hn
  go_enter Try.func26, Try.ntmps26
  go_wp2_with fail
  go_ret
  exact ⟨rfl, ⟨A, c, xs, 0, heap_alloc_new w _, hr.ext ((Ext.refl _).alloc _), Nat.zero_le _, rfl, hx, ha⟩, by simp, (Ext.refl _).alloc _⟩

theorem readF_val (m : Nat) (xs : List Int) (er : Int) : (readF m xs er).1 = leVal (if er ≠ 0 ∨ xs.length < m then [] else xs.take m) := by
  unfold readF
  by_cases h : er ≠ 0
  · rw [if_pos h, if_pos (.inl h)]; rfl
  · rw [if_neg h]
    by_cases h' : xs.length < m
    · rw [if_pos h', if_pos (.inr h')]; rfl
    · rw [if_neg h', if_neg (by rintro (a | a) <;> contradiction)]

theorem leVal_small (cs : List Int) (h : ∀ x ∈ cs, 0 ≤ x ∧ x < 256) (hl : cs.length ≤ 7) : 0 ≤ leVal cs ∧ leVal cs < 72057594037927936 := by
  obtain ⟨h1, h2⟩ := leVal_range cs h
  rw [pow256] at h2
  have h3 : ∀ m n : Nat, m ≤ n → (2 : Int) ^ m ≤ 2 ^ n := fun m n h => by
    have h4 := Nat.pow_le_pow_right (n := 2) (by decide) h
    have h5 : ∀ k : Nat, ((2 ^ k : Nat) : Int) = 2 ^ k := fun k => by push_cast; rfl
    rw [← h5, ← h5]
    exact Int.ofNat_le.2 h4
  exact ⟨h1, Int.lt_of_lt_of_le h2 (h3 _ 56 (by omega))⟩

set_option maxHeartbeats 800000 in
theorem QInt_calls {p : Nat → Prop} (x : Nat) (xs : List Int) (er : Int) (w : World) (hR : RfS p w x xs er) (hx : ∀ q ∈ xs, 0 ≤ q ∧ q < 256) :
    Calls Try.prog 27 #[.pointer (some ⟨x, 0, none⟩)] w fun e w' => e = .returned (.int .i64 (IntKind.i64.wrap (readF 8 xs er).1)) ∧ RfS p w' x (readF 8 xs er).2.1 (readF 8 xs er).2.2 ∧ w.grownBy w' (some x) := by
  have H := Lib.hid hR
  have Hval := Lib.hid (readF_val 8 xs er)
  clear hR
  go_enter Try.func27, Try.ntmps27
  go_wp2_with fail
  refine (take_calls x xs er 8 w H.out (by decide) (by decide)).mono ?_
  rintro e w1 ⟨⟨v, rfl, hV⟩, hR, hG⟩
  have HR := Lib.hid hR
  have HG := Lib.hid hG
  clear hR hG
  obtain ⟨bs, hbs⟩ : ∃ bs : List Int, (if er ≠ 0 ∨ xs.length < 8 then [] else xs.take 8) = bs := ⟨_, rfl⟩
  have hbl : bs.length ≤ 8 := by
    rw [← hbs]; split
    · simp
    · rw [List.length_take]; omega
  have hbx : ∀ q ∈ bs, 0 ≤ q ∧ q < 256 := by
    rw [← hbs]; split
    · simp
    · exact fun q hq => hx q (List.mem_of_mem_take hq)
  have HB := Lib.hid (hbs ▸ Hval.out)
  rw [hbs] at hV
  obtain ⟨A, c, rfl⟩ := hV.shape
  have HV := Lib.hid hV
  have Hbx := Lib.hid hbx
  clear hbs hV hbx hx
  go_wp2_with fail
  go_loop [3, 5] (fun u i => ∃ r : Nat, r ≤ bs.length ∧ i = .int .i64 ((r : Int) - 1) ∧ u = .int .u64 (leVal (bs.drop r))) (fun _ i => (intOf i + 1).toNat)
  case atStart => exact ⟨bs.length, Nat.le_refl _, rfl, by rw [List.drop_length]; rfl⟩
  case round =>
    obtain ⟨r, hr, rfl, rfl⟩ := hrel
    rcases Nat.eq_zero_or_pos r with h0 | hp
    · subst h0
      go_wp2_with fail
      go_ret
      exact ⟨by rw [HB.out]; simp [IntKind.wrap_i64, wrap64], HR.out, HG.out⟩
    · obtain ⟨s, rfl⟩ : ∃ s, r = s + 1 := ⟨r - 1, by omega⟩
      have hs : (((s + 1 : Nat) : Int) - 1) = (s : Int) := by omega
      obtain ⟨b, off, c', he', hcc, hcm, hcell⟩ := Rd.pos HV.out (by omega)
      injection he' with e1 e2 e3
      subst e1
      subst e3
      have hc := hcell s (by omega)
      have hdrop : bs.drop s = bs.getD s 0 :: bs.drop (s + 1) := by
        rw [List.drop_eq_getElem_cons (by omega)]
        simp [List.getD_eq_getElem?_getD, List.getElem?_eq_getElem (show s < bs.length by omega)]
      have hq := Hbx.out (bs.getD s 0) (by rw [List.getD_eq_getElem?_getD, List.getElem?_eq_getElem (by omega)]; exact List.getElem_mem _)
      have hsm := leVal_small (bs.drop (s + 1)) (fun q hq => Hbx.out q (List.mem_of_mem_drop hq)) (by rw [List.length_drop]; omega)
      obtain ⟨q, hqq⟩ : ∃ q, bs.getD s 0 = q := ⟨_, rfl⟩
      obtain ⟨L, hL⟩ : ∃ L, leVal (bs.drop (s + 1)) = L := ⟨_, rfl⟩
      rw [hqq] at hc hdrop hq
      rw [hL] at hsm
      have Hsm := Lib.hid hsm
      have Hdrop := Lib.hid hdrop
      have HL := Lib.hid hL
      have Hq := Lib.hid hq
      rw [hs, hL]
      clear hcell hqq hL hsm hdrop hq hs
      go_wp2_with fail
      go_round
      case rel => exact ⟨s, by omega, rfl, by rw [show IntKind.u64.wrap q = q by obtain ⟨a, b⟩ := Hq.out; rw [IntKind.wrap_u64]; omega, or_low L q Hsm.out.1 Hsm.out.2 Hq.out.1 Hq.out.2, Hdrop.out, leVal, HL.out]⟩
      case measure => simp [intOf]
end Go.Proofs.Ytmbjebdkhcpclaa
