/-
  What is wrong with a slot: the program's. Printed by mk_ECk.py.
-/
import Derived.Test.YtmbjebdkhcpclaaEC
set_option linter.unusedSimpArgs false
set_option linter.unusedVariables false
namespace Go.Proofs.Ytmbjebdkhcpclaa
open Go.RowKit

set_option maxHeartbeats 2000000 in
theorem Check_range (k l s : Int) (d : Nat → Int) (w : World) (h : k < 0 ∨ 3 < k) :
    Calls Try.prog 16 #[slotVal k l s d] w fun e w' => e = .returned (.int .i64 1) ∧ Ext w w' := by
  have n1 : (k == 1) = false := beq_eq_false_iff_ne.2 (by omega)
  have n2 : (k == 2) = false := beq_eq_false_iff_ne.2 (by omega)
  go_enter Try.func16, Try.ntmps16
  go_wp2_with fail
  refine (has_no _ _ _ _ (by omega)).mono ?_
  rintro e w' ⟨rfl, rfl⟩
  go_wp2_with fail
  go_ret
  exact ⟨rfl, ((((Ext.refl w).alloc _).alloc _).alloc _).alloc _⟩

set_option maxHeartbeats 2000000 in
theorem Check_0_l (l s : Int) (d : Nat → Int) (w : World) (h : ¬ (0 ≤ l ∧ l ≤ 0)) :
    Calls Try.prog 16 #[slotVal 0 l s d] w fun e w' => e = .returned (.int .i64 1) ∧ Ext w w' := by
  go_enter Try.func16, Try.ntmps16
  go_wp2_with fail
  refine (has_yes _ _ _ _ (by decide) (by decide)).mono ?_
  rintro e w' ⟨rfl, rfl⟩
  go_wp2_with fail
  refine (has_no _ _ _ _ h).mono ?_
  rintro e w' ⟨rfl, rfl⟩
  go_wp2_with fail
  go_ret
  exact ⟨rfl, ((((((Ext.refl w).alloc _).alloc _).alloc _).alloc _).alloc _)⟩

set_option maxHeartbeats 2000000 in
theorem Check_0_s (l s : Int) (d : Nat → Int) (w : World) (h1 : 0 ≤ l ∧ l ≤ 0) (h : ¬ (0 ≤ s ∧ s ≤ 0)) :
    Calls Try.prog 16 #[slotVal 0 l s d] w fun e w' => e = .returned (.int .i64 1) ∧ Ext w w' := by
  go_enter Try.func16, Try.ntmps16
  go_wp2_with fail
  refine (has_yes _ _ _ _ (by decide) (by decide)).mono ?_
  rintro e w' ⟨rfl, rfl⟩
  go_wp2_with fail
  refine (has_yes _ _ _ _ h1.1 h1.2).mono ?_
  rintro e w' ⟨rfl, rfl⟩
  go_wp2_with fail
  refine (has_no _ _ _ _ h).mono ?_
  rintro e w' ⟨rfl, rfl⟩
  go_wp2_with fail
  go_ret
  exact ⟨rfl, (((((((Ext.refl w).alloc _).alloc _).alloc _).alloc _).alloc _).alloc _)⟩

set_option maxHeartbeats 2000000 in
theorem Check_0_z (l s : Int) (d : Nat → Int) (w : World) (h1 : 0 ≤ l ∧ l ≤ 0) (h2 : 0 ≤ s ∧ s ≤ 0) (hz : zeroB d = true) :
    Calls Try.prog 16 #[slotVal 0 l s d] w fun e w' => e = .returned (.int .i64 0) ∧ Ext w w' := by
  have hq := eq_zero d
  rw [hz] at hq
  have Hq := Lib.hid hq
  clear hq hz
  go_enter Try.func16, Try.ntmps16
  go_wp2_with fail
  refine (has_yes _ _ _ _ (by decide) (by decide)).mono ?_
  rintro e w' ⟨rfl, rfl⟩
  go_wp2_with fail
  refine (has_yes _ _ _ _ h1.1 h1.2).mono ?_
  rintro e w' ⟨rfl, rfl⟩
  go_wp2_with fail
  refine (has_yes _ _ _ _ h2.1 h2.2).mono ?_
  rintro e w' ⟨rfl, rfl⟩
  have hq := Hq.out
  go_wp2_with fail
  go_ret
  exact ⟨rfl, (((((((Ext.refl w).alloc _).alloc _).alloc _).alloc _).alloc _).alloc _)⟩

set_option maxHeartbeats 2000000 in
theorem Check_0_n (l s : Int) (d : Nat → Int) (w : World) (h1 : 0 ≤ l ∧ l ≤ 0) (h2 : 0 ≤ s ∧ s ≤ 0) (hz : zeroB d = false) :
    Calls Try.prog 16 #[slotVal 0 l s d] w fun e w' => e = .returned (.int .i64 1) ∧ Ext w w' := by
  have hq := eq_zero d
  rw [hz] at hq
  have Hq := Lib.hid hq
  clear hq hz
  go_enter Try.func16, Try.ntmps16
  go_wp2_with fail
  refine (has_yes _ _ _ _ (by decide) (by decide)).mono ?_
  rintro e w' ⟨rfl, rfl⟩
  go_wp2_with fail
  refine (has_yes _ _ _ _ h1.1 h1.2).mono ?_
  rintro e w' ⟨rfl, rfl⟩
  go_wp2_with fail
  refine (has_yes _ _ _ _ h2.1 h2.2).mono ?_
  rintro e w' ⟨rfl, rfl⟩
  have hq := Hq.out
  go_wp2_with fail
  go_ret
  exact ⟨rfl, (((((((Ext.refl w).alloc _).alloc _).alloc _).alloc _).alloc _).alloc _)⟩

set_option maxHeartbeats 2000000 in
theorem Check_1_l (l s : Int) (d : Nat → Int) (w : World) (h : ¬ (0 ≤ l ∧ l ≤ 65536)) :
    Calls Try.prog 16 #[slotVal 1 l s d] w fun e w' => e = .returned (.int .i64 1) ∧ Ext w w' := by
  go_enter Try.func16, Try.ntmps16
  go_wp2_with fail
  refine (has_yes _ _ _ _ (by decide) (by decide)).mono ?_
  rintro e w' ⟨rfl, rfl⟩
  go_wp2_with fail
  refine (has_no _ _ _ _ h).mono ?_
  rintro e w' ⟨rfl, rfl⟩
  go_wp2_with fail
  go_ret
  exact ⟨rfl, ((((((Ext.refl w).alloc _).alloc _).alloc _).alloc _).alloc _)⟩

set_option maxHeartbeats 2000000 in
theorem Check_1_s (l s : Int) (d : Nat → Int) (w : World) (h1 : 0 ≤ l ∧ l ≤ 65536) (h : ¬ (1 ≤ s ∧ s ≤ 1099511627776)) :
    Calls Try.prog 16 #[slotVal 1 l s d] w fun e w' => e = .returned (.int .i64 1) ∧ Ext w w' := by
  go_enter Try.func16, Try.ntmps16
  go_wp2_with fail
  refine (has_yes _ _ _ _ (by decide) (by decide)).mono ?_
  rintro e w' ⟨rfl, rfl⟩
  go_wp2_with fail
  refine (has_yes _ _ _ _ h1.1 h1.2).mono ?_
  rintro e w' ⟨rfl, rfl⟩
  go_wp2_with fail
  refine (has_no _ _ _ _ h).mono ?_
  rintro e w' ⟨rfl, rfl⟩
  go_wp2_with fail
  go_ret
  exact ⟨rfl, (((((((Ext.refl w).alloc _).alloc _).alloc _).alloc _).alloc _).alloc _)⟩

set_option maxHeartbeats 2000000 in
theorem Check_1_ok (l s : Int) (d : Nat → Int) (w : World) (h1 : 0 ≤ l ∧ l ≤ 65536) (h2 : 1 ≤ s ∧ s ≤ 1099511627776) :
    Calls Try.prog 16 #[slotVal 1 l s d] w fun e w' => e = .returned (.int .i64 0) ∧ Ext w w' := by
  go_enter Try.func16, Try.ntmps16
  go_wp2_with fail
  refine (has_yes _ _ _ _ (by decide) (by decide)).mono ?_
  rintro e w' ⟨rfl, rfl⟩
  go_wp2_with fail
  refine (has_yes _ _ _ _ h1.1 h1.2).mono ?_
  rintro e w' ⟨rfl, rfl⟩
  go_wp2_with fail
  refine (has_yes _ _ _ _ h2.1 h2.2).mono ?_
  rintro e w' ⟨rfl, rfl⟩
  go_wp2_with fail
  go_ret
  exact ⟨rfl, (((((((Ext.refl w).alloc _).alloc _).alloc _).alloc _).alloc _).alloc _)⟩

set_option maxHeartbeats 2000000 in
theorem Check_2_l (l s : Int) (d : Nat → Int) (w : World) (h : ¬ (0 ≤ l ∧ l ≤ 65536)) :
    Calls Try.prog 16 #[slotVal 2 l s d] w fun e w' => e = .returned (.int .i64 1) ∧ Ext w w' := by
  go_enter Try.func16, Try.ntmps16
  go_wp2_with fail
  refine (has_yes _ _ _ _ (by decide) (by decide)).mono ?_
  rintro e w' ⟨rfl, rfl⟩
  go_wp2_with fail
  refine (has_no _ _ _ _ h).mono ?_
  rintro e w' ⟨rfl, rfl⟩
  go_wp2_with fail
  go_ret
  exact ⟨rfl, ((((((Ext.refl w).alloc _).alloc _).alloc _).alloc _).alloc _)⟩

set_option maxHeartbeats 2000000 in
theorem Check_2_s (l s : Int) (d : Nat → Int) (w : World) (h1 : 0 ≤ l ∧ l ≤ 65536) (h : ¬ (1 ≤ s ∧ s ≤ 1099511627776)) :
    Calls Try.prog 16 #[slotVal 2 l s d] w fun e w' => e = .returned (.int .i64 1) ∧ Ext w w' := by
  go_enter Try.func16, Try.ntmps16
  go_wp2_with fail
  refine (has_yes _ _ _ _ (by decide) (by decide)).mono ?_
  rintro e w' ⟨rfl, rfl⟩
  go_wp2_with fail
  refine (has_yes _ _ _ _ h1.1 h1.2).mono ?_
  rintro e w' ⟨rfl, rfl⟩
  go_wp2_with fail
  refine (has_no _ _ _ _ h).mono ?_
  rintro e w' ⟨rfl, rfl⟩
  go_wp2_with fail
  go_ret
  exact ⟨rfl, (((((((Ext.refl w).alloc _).alloc _).alloc _).alloc _).alloc _).alloc _)⟩

set_option maxHeartbeats 2000000 in
theorem Check_2_z (l s : Int) (d : Nat → Int) (w : World) (h1 : 0 ≤ l ∧ l ≤ 65536) (h2 : 1 ≤ s ∧ s ≤ 1099511627776) (hz : zeroB d = true) :
    Calls Try.prog 16 #[slotVal 2 l s d] w fun e w' => e = .returned (.int .i64 0) ∧ Ext w w' := by
  have hq := eq_zero d
  rw [hz] at hq
  have Hq := Lib.hid hq
  clear hq hz
  go_enter Try.func16, Try.ntmps16
  go_wp2_with fail
  refine (has_yes _ _ _ _ (by decide) (by decide)).mono ?_
  rintro e w' ⟨rfl, rfl⟩
  go_wp2_with fail
  refine (has_yes _ _ _ _ h1.1 h1.2).mono ?_
  rintro e w' ⟨rfl, rfl⟩
  go_wp2_with fail
  refine (has_yes _ _ _ _ h2.1 h2.2).mono ?_
  rintro e w' ⟨rfl, rfl⟩
  have hq := Hq.out
  go_wp2_with fail
  go_ret
  exact ⟨rfl, (((((((Ext.refl w).alloc _).alloc _).alloc _).alloc _).alloc _).alloc _)⟩

set_option maxHeartbeats 2000000 in
theorem Check_2_n (l s : Int) (d : Nat → Int) (w : World) (h1 : 0 ≤ l ∧ l ≤ 65536) (h2 : 1 ≤ s ∧ s ≤ 1099511627776) (hz : zeroB d = false) :
    Calls Try.prog 16 #[slotVal 2 l s d] w fun e w' => e = .returned (.int .i64 1) ∧ Ext w w' := by
  have hq := eq_zero d
  rw [hz] at hq
  have Hq := Lib.hid hq
  clear hq hz
  go_enter Try.func16, Try.ntmps16
  go_wp2_with fail
  refine (has_yes _ _ _ _ (by decide) (by decide)).mono ?_
  rintro e w' ⟨rfl, rfl⟩
  go_wp2_with fail
  refine (has_yes _ _ _ _ h1.1 h1.2).mono ?_
  rintro e w' ⟨rfl, rfl⟩
  go_wp2_with fail
  refine (has_yes _ _ _ _ h2.1 h2.2).mono ?_
  rintro e w' ⟨rfl, rfl⟩
  have hq := Hq.out
  go_wp2_with fail
  go_ret
  exact ⟨rfl, (((((((Ext.refl w).alloc _).alloc _).alloc _).alloc _).alloc _).alloc _)⟩

set_option maxHeartbeats 2000000 in
theorem Check_3_l (l s : Int) (d : Nat → Int) (w : World) (h : ¬ (0 ≤ l ∧ l ≤ 0)) :
    Calls Try.prog 16 #[slotVal 3 l s d] w fun e w' => e = .returned (.int .i64 1) ∧ Ext w w' := by
  go_enter Try.func16, Try.ntmps16
  go_wp2_with fail
  refine (has_yes _ _ _ _ (by decide) (by decide)).mono ?_
  rintro e w' ⟨rfl, rfl⟩
  go_wp2_with fail
  refine (has_no _ _ _ _ h).mono ?_
  rintro e w' ⟨rfl, rfl⟩
  go_wp2_with fail
  go_ret
  exact ⟨rfl, ((((((Ext.refl w).alloc _).alloc _).alloc _).alloc _).alloc _)⟩

set_option maxHeartbeats 2000000 in
theorem Check_3_s (l s : Int) (d : Nat → Int) (w : World) (h1 : 0 ≤ l ∧ l ≤ 0) (h : ¬ (0 ≤ s ∧ s ≤ 0)) :
    Calls Try.prog 16 #[slotVal 3 l s d] w fun e w' => e = .returned (.int .i64 1) ∧ Ext w w' := by
  go_enter Try.func16, Try.ntmps16
  go_wp2_with fail
  refine (has_yes _ _ _ _ (by decide) (by decide)).mono ?_
  rintro e w' ⟨rfl, rfl⟩
  go_wp2_with fail
  refine (has_yes _ _ _ _ h1.1 h1.2).mono ?_
  rintro e w' ⟨rfl, rfl⟩
  go_wp2_with fail
  refine (has_no _ _ _ _ h).mono ?_
  rintro e w' ⟨rfl, rfl⟩
  go_wp2_with fail
  go_ret
  exact ⟨rfl, (((((((Ext.refl w).alloc _).alloc _).alloc _).alloc _).alloc _).alloc _)⟩

set_option maxHeartbeats 2000000 in
theorem Check_3_z (l s : Int) (d : Nat → Int) (w : World) (h1 : 0 ≤ l ∧ l ≤ 0) (h2 : 0 ≤ s ∧ s ≤ 0) (hz : zeroB d = true) :
    Calls Try.prog 16 #[slotVal 3 l s d] w fun e w' => e = .returned (.int .i64 0) ∧ Ext w w' := by
  have hq := eq_zero d
  rw [hz] at hq
  have Hq := Lib.hid hq
  clear hq hz
  go_enter Try.func16, Try.ntmps16
  go_wp2_with fail
  refine (has_yes _ _ _ _ (by decide) (by decide)).mono ?_
  rintro e w' ⟨rfl, rfl⟩
  go_wp2_with fail
  refine (has_yes _ _ _ _ h1.1 h1.2).mono ?_
  rintro e w' ⟨rfl, rfl⟩
  go_wp2_with fail
  refine (has_yes _ _ _ _ h2.1 h2.2).mono ?_
  rintro e w' ⟨rfl, rfl⟩
  have hq := Hq.out
  go_wp2_with fail
  go_ret
  exact ⟨rfl, (((((((Ext.refl w).alloc _).alloc _).alloc _).alloc _).alloc _).alloc _)⟩

set_option maxHeartbeats 2000000 in
theorem Check_3_n (l s : Int) (d : Nat → Int) (w : World) (h1 : 0 ≤ l ∧ l ≤ 0) (h2 : 0 ≤ s ∧ s ≤ 0) (hz : zeroB d = false) :
    Calls Try.prog 16 #[slotVal 3 l s d] w fun e w' => e = .returned (.int .i64 1) ∧ Ext w w' := by
  have hq := eq_zero d
  rw [hz] at hq
  have Hq := Lib.hid hq
  clear hq hz
  go_enter Try.func16, Try.ntmps16
  go_wp2_with fail
  refine (has_yes _ _ _ _ (by decide) (by decide)).mono ?_
  rintro e w' ⟨rfl, rfl⟩
  go_wp2_with fail
  refine (has_yes _ _ _ _ h1.1 h1.2).mono ?_
  rintro e w' ⟨rfl, rfl⟩
  go_wp2_with fail
  refine (has_yes _ _ _ _ h2.1 h2.2).mono ?_
  rintro e w' ⟨rfl, rfl⟩
  have hq := Hq.out
  go_wp2_with fail
  go_ret
  exact ⟨rfl, (((((((Ext.refl w).alloc _).alloc _).alloc _).alloc _).alloc _).alloc _)⟩

theorem Check_calls (k l s : Int) (d : Nat → Int) (w : World) :
    Calls Try.prog 16 #[slotVal k l s d] w fun e w' => e = .returned (.int .i64 (checkF k l s d)) ∧ Ext w w' := by
  by_cases hk : k < 0 ∨ 3 < k
  · rw [show checkF k l s d = 1 by rw [checkF, if_pos hk]]
    exact Check_range k l s d w hk
  · have hk4 : k = 0 ∨ k = 1 ∨ k = 2 ∨ k = 3 := by omega
    rcases hk4 with rfl | rfl | rfl | rfl
    · by_cases h1 : 0 ≤ l ∧ l ≤ 0
      · by_cases h2 : 0 ≤ s ∧ s ≤ 0
        · cases hz : zeroB d with
          | true =>
            rw [show checkF 0 l s d = 0 by rw [checkF, if_neg (by decide), if_neg (by decide), if_neg (by omega), if_pos hz]]
            exact Check_0_z l s d w h1 h2 hz
          | false =>
            rw [show checkF 0 l s d = 1 by rw [checkF, if_neg (by decide), if_neg (by decide), if_neg (by omega), if_neg (by rw [hz]; decide)]]
            exact Check_0_n l s d w h1 h2 hz
        · rw [show checkF 0 l s d = 1 by rw [checkF, if_neg (by decide), if_neg (by decide), if_pos (by omega)]]
          exact Check_0_s l s d w h1 h2
      · rw [show checkF 0 l s d = 1 by rw [checkF, if_neg (by decide), if_neg (by decide), if_pos (by omega)]]
        exact Check_0_l l s d w h1
    · by_cases h1 : 0 ≤ l ∧ l ≤ 65536
      · by_cases h2 : 1 ≤ s ∧ s ≤ 1099511627776
        · rw [show checkF 1 l s d = 0 by rw [checkF, if_neg (by decide), if_pos (by decide), if_neg (by omega), if_pos (.inl rfl)]]
          exact Check_1_ok l s d w h1 h2
        · rw [show checkF 1 l s d = 1 by rw [checkF, if_neg (by decide), if_pos (by decide), if_pos (by omega)]]
          exact Check_1_s l s d w h1 h2
      · rw [show checkF 1 l s d = 1 by rw [checkF, if_neg (by decide), if_pos (by decide), if_pos (by omega)]]
        exact Check_1_l l s d w h1
    · by_cases h1 : 0 ≤ l ∧ l ≤ 65536
      · by_cases h2 : 1 ≤ s ∧ s ≤ 1099511627776
        · cases hz : zeroB d with
          | true =>
            rw [show checkF 2 l s d = 0 by rw [checkF, if_neg (by decide), if_pos (by decide), if_neg (by omega), if_pos (.inr hz)]]
            exact Check_2_z l s d w h1 h2 hz
          | false =>
            rw [show checkF 2 l s d = 1 by rw [checkF, if_neg (by decide), if_pos (by decide), if_neg (by omega), if_neg (by rw [hz]; decide)]]
            exact Check_2_n l s d w h1 h2 hz
        · rw [show checkF 2 l s d = 1 by rw [checkF, if_neg (by decide), if_pos (by decide), if_pos (by omega)]]
          exact Check_2_s l s d w h1 h2
      · rw [show checkF 2 l s d = 1 by rw [checkF, if_neg (by decide), if_pos (by decide), if_pos (by omega)]]
        exact Check_2_l l s d w h1
    · by_cases h1 : 0 ≤ l ∧ l ≤ 0
      · by_cases h2 : 0 ≤ s ∧ s ≤ 0
        · cases hz : zeroB d with
          | true =>
            rw [show checkF 3 l s d = 0 by rw [checkF, if_neg (by decide), if_neg (by decide), if_neg (by omega), if_pos hz]]
            exact Check_3_z l s d w h1 h2 hz
          | false =>
            rw [show checkF 3 l s d = 1 by rw [checkF, if_neg (by decide), if_neg (by decide), if_neg (by omega), if_neg (by rw [hz]; decide)]]
            exact Check_3_n l s d w h1 h2 hz
        · rw [show checkF 3 l s d = 1 by rw [checkF, if_neg (by decide), if_neg (by decide), if_pos (by omega)]]
          exact Check_3_s l s d w h1 h2
      · rw [show checkF 3 l s d = 1 by rw [checkF, if_neg (by decide), if_neg (by decide), if_pos (by omega)]]
        exact Check_3_l l s d w h1
end Go.Proofs.Ytmbjebdkhcpclaa
