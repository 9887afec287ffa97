/-
  The walk of the law CodeFails.
-/
import Derived.Test.YtjonbihhalnleaaCodeR
import Derived.Test.YtjonbihhalnleaaCodeWrites
import Derived.OpenShut
set_option linter.unusedSimpArgs false
set_option linter.unusedVariables false
namespace Go.Proofs.Ytjonbihhalnleaa
open Go.RowKit

theorem bytes_range {xs : List Int} (h : ∀ n ∈ xs, (Lit.int .u8 n).wf = true) : ∀ x ∈ xs, 0 ≤ x ∧ x < 256 := by
  intro x hx
  have := bounds_u8 (h x hx)
  omega

theorem CodeFails_large (vb : Value) (xs : List Int) (n m : Int) (w : World) (hr : Rd w .u8 vb xs) (hx : 50 < xs.length) :
    Calls Try.prog 9 #[vb, .int .i64 n, .int .i64 m] w fun e w' => e = .returned (.bool true) ∧ Ext w w' := by
  obtain ⟨Ab, cb, rfl⟩ := hr.shape
  clear hr
  go_enter Try.func9, Try.ntmps9
  go_wp2_with fail
  refine (known1_calls w).mono ?_
  rintro e w1 ⟨rfl, hE1⟩
  go_wp2_with fail
  go_ret
  exact ⟨rfl, hE1⟩

/-- From w on, in blocks that are new since w0 alone. -/
theorem Ext.grownBy {w0 w w' : World} {g : Nat} (h : Ext w0 w) (hG : w.grownBy w' (some g)) (hg : w0.heap.size ≤ g) : Ext w0 w' :=
  Below.grown h hG h.size (fun k e => by cases e; exact hg)

set_option maxHeartbeats 2000000 in
set_option maxRecDepth 100000 in
theorem CodeFails_small (vb : Value) (xs : List Int) (n m : Int) (w : World) (hr : Rd w .u8 vb xs) (hx : xs.length ≤ 50) (hxs : ∀ n ∈ xs, (Lit.int .u8 n).wf = true) (hn : (Lit.int .i64 n).wf = true) (hm : (Lit.int .i64 m).wf = true) :
    Calls Try.prog 9 #[vb, .int .i64 n, .int .i64 m] w fun e w' => e = .returned (.bool true) ∧ Ext w w' := by
  obtain ⟨Ab, cb, rfl⟩ := hr.shape
  have Hxs := Lib.hid (bytes_range hxs)
  have Hn := Lib.hid (bounds_i64 hn)
  have Hm := Lib.hid (bounds_i64 hm)
  have hr := Lib.hid hr
  clear hxs hn hm
  obtain ⟨p, hp⟩ : ∃ p, n % 12 = p := ⟨_, rfl⟩
  obtain ⟨q, hq⟩ : ∃ q, m % 12 = q := ⟨_, rfl⟩
  have hp0 : 0 ≤ p := by omega
  have hp1 : p < 12 := by omega
  have hq0 : 0 ≤ q := by omega
  have hq1 : q < 12 := by omega
  have Hp := Lib.hid hp
  have Hq := Lib.hid hq
  clear hp hq
  go_enter Try.func9, Try.ntmps9
  go_wp2_with fail
  refine (known1_calls w).mono ?_
  rintro e w1 ⟨rfl, hE1⟩
  go_wp2_with fail
  refine (within_calls n 12 w1 (by decide) (by decide) Hn.out).mono ?_
  rintro e w' ⟨rfl, rfl⟩
  rw [Hp.out]
  go_wp2_with fail
  refine (within_calls m 12 w1 (by decide) (by decide) Hm.out).mono ?_
  rintro e w' ⟨rfl, rfl⟩
  rw [Hq.out]
  go_wp2_with fail
  refine (New_calls _ xs w1 (by omega) (hr.out.ext hE1)).mono ?_
  rintro e w2 ⟨g, rfl, hR, hg, hgl, hE2⟩
  have HR := Lib.hid hR
  clear hR
  go_wp2_with fail
  refine (RFail_calls g xs 0 0 w2 HR.out).mono ?_
  rintro e w3 ⟨rfl, hR, hG3⟩
  have hR3 := Lib.hid (show RdS _ w3 g xs 0 from hR)
  clear HR hR
  go_wp2_with fail
  refine (RFail_calls g xs 0 _ w3 hR3.out).mono ?_
  rintro e w4 ⟨rfl, hR, hG4⟩
  have hR4 := Lib.hid (show RdS _ w4 g xs (1 + p) from hR)
  clear hR3 hR
  go_wp2_with fail
  refine (RFail_calls g xs (1 + p) _ w4 hR4.out).mono ?_
  rintro e w5 ⟨rfl, hR, hG5⟩
  have hf : failF (1 + p) (1 + q) = 1 + p := by rw [failF, if_neg (by omega)]
  rw [hf] at hR
  have hR5 := Lib.hid hR
  have hE3 := ((((hE1.trans hE2).grownBy hG3 (Nat.le_trans hE1.size hg)).grownBy hG4 (Nat.le_trans hE1.size hg)).grownBy hG5 (Nat.le_trans hE1.size hg))
  clear hR4 hR hf
  go_wp2_with fail
  refine (New_calls _ xs w5 (by omega) (hr.out.ext hE3)).mono ?_
  rintro e w6 ⟨g2, rfl, hX, hg2, hgl2, hE6⟩
  have HX := Lib.hid hX
  have hR6 := Lib.hid (hR5.out.ext hE6)
  have hgg : g < g2 := Nat.lt_of_lt_of_le hR5.out.lt hg2
  clear hX hR5
  go_wp2_with fail
  refine (RFail_calls g2 xs 0 0 w6 HX.out).mono ?_
  rintro e w7 ⟨rfl, hX, hG7⟩
  have hX7 := Lib.hid (show RdS _ w7 g2 xs 0 from hX)
  have hR7 := Lib.hid (hR6.out.keep hG7 hgg)
  clear hX HX hR6
  go_wp2_with fail
  refine (REnd_calls g2 xs 0 w7 hX7.out).mono ?_
  rintro e w' ⟨rfl, rfl⟩
  go_wp2_with fail
  refine (RInt_calls g xs (1 + p) w7 hR7.out Hxs.out).mono ?_
  have hF8 : readF 8 xs (1 + p) = (0, xs, 1 + p) := by rw [readF, if_pos (by omega)]
  have hF1 : readF 1 xs (1 + p) = (0, xs, 1 + p) := by rw [readF, if_pos (by omega)]
  rw [hF8]
  rintro e w8 ⟨rfl, hR, hG8⟩
  have hR8 := Lib.hid (show RdS _ w8 g xs (1 + p) from hR)
  have HF1 := Lib.hid hF1
  clear hF8 hF1 hR hX7 hR7
  go_wp2_with fail
  refine (RByte_calls g xs (1 + p) w8 hR8.out Hxs.out).mono ?_
  rw [HF1.out]
  rintro e w9 ⟨rfl, hR, hG9⟩
  have hR9 := Lib.hid (show RdS _ w9 g xs (1 + p) from hR)
  clear hR hR8 HF1
  go_wp2_with fail
  refine (REnd_calls g xs (1 + p) w9 hR9.out).mono ?_
  have hE : endF xs (1 + p) = 1 + p := by rw [endF, if_neg (by omega)]
  rw [hE]
  rintro e w' ⟨rfl, rfl⟩
  clear hE
  have hfin : Ext w w9 := ((((hE3.trans hE6).grownBy hG7 (Nat.le_trans hE3.size hg2)).grownBy hG8 (Nat.le_trans hE1.size hg)).grownBy hG9 (Nat.le_trans hE1.size hg))
  have Hfin := Lib.hid hfin
  clear hG3 hG4 hG5 hG7 hG8 hG9 hE1 hE2 hE3 hE6 hR9 hr Hn Hm Hp Hq hfin
  by_cases hl : 0 < xs.length
  · have hend : endF xs 0 = 4 := by rw [endF, if_pos ⟨rfl, hl⟩]
    have b1 : ((xs.length : Int) == 0) = false := beq_eq_false_iff_ne.2 (by omega)
    go_wp2_with fail
    go_ret
    exact ⟨rfl, Hfin.out⟩
  · have hend : endF xs 0 = 0 := by rw [endF, if_neg (by omega)]
    have b1 : ((xs.length : Int) == 0) = true := beq_iff_eq.2 (by omega)
    go_wp2_with fail
    go_ret
    exact ⟨rfl, Hfin.out⟩

theorem CodeFails_walk (vb : Value) (xs : List Int) (n m : Int) (w : World) (hr : Rd w .u8 vb xs) (hxs : ∀ n ∈ xs, (Lit.int .u8 n).wf = true) (hn : (Lit.int .i64 n).wf = true) (hm : (Lit.int .i64 m).wf = true) :
    Calls Try.prog 9 #[vb, .int .i64 n, .int .i64 m] w fun e w' => e = .returned (.bool true) ∧ Ext w w' := by
  rcases Nat.lt_or_ge 50 xs.length with h | h
  · exact CodeFails_large vb xs n m w hr h
  · exact CodeFails_small vb xs n m w hr h hxs hn hm
end Go.Proofs.Ytjonbihhalnleaa
