/-
  What is wrong with a slot: the document's. Printed by mk_ECk.py.
-/
import Derived.Test.YtmbjebdkhcpclaaEC
set_option linter.unusedSimpArgs false
set_option linter.unusedVariables false
namespace Go.Proofs.Ytmbjebdkhcpclaa
open Go.RowKit

set_option maxHeartbeats 2000000 in
theorem DCheck_low (k l s : Int) (d : Nat → Int) (w : World) (h : k < 0) :
    Calls Try.prog 18 #[slotVal k l s d] w fun e w' => e = .returned (.int .i64 1) ∧ Ext w w' := by
  have n1 : (k == 1) = false := beq_eq_false_iff_ne.2 (by omega)
  have n2 : (k == 2) = false := beq_eq_false_iff_ne.2 (by omega)
  go_enter Try.func18, Try.ntmps18
  go_wp2_with fail
  go_ret
  exact ⟨rfl, (Ext.refl w).alloc _⟩

set_option maxHeartbeats 2000000 in
theorem DCheck_high (k l s : Int) (d : Nat → Int) (w : World) (h : 3 < k) :
    Calls Try.prog 18 #[slotVal k l s d] w fun e w' => e = .returned (.int .i64 1) ∧ Ext w w' := by
  have n1 : (k == 1) = false := beq_eq_false_iff_ne.2 (by omega)
  have n2 : (k == 2) = false := beq_eq_false_iff_ne.2 (by omega)
  go_enter Try.func18, Try.ntmps18
  go_wp2_with fail
  go_ret
  exact ⟨rfl, (Ext.refl w).alloc _⟩

set_option maxHeartbeats 2000000 in
theorem DCheck_0_l1 (l s : Int) (d : Nat → Int) (w : World) (h : l ≠ 0) :
    Calls Try.prog 18 #[slotVal 0 l s d] w fun e w' => e = .returned (.int .i64 1) ∧ Ext w w' := by
  have n1 : (l != 0) = true := bne_iff_ne.2 h
  go_enter Try.func18, Try.ntmps18
  go_wp2_with fail
  go_ret
  exact ⟨rfl, (Ext.refl w).alloc _⟩

set_option maxHeartbeats 2000000 in
theorem DCheck_0_s1 (l s : Int) (d : Nat → Int) (w : World) (h0 : l = 0) (h : s ≠ 0) :
    Calls Try.prog 18 #[slotVal 0 l s d] w fun e w' => e = .returned (.int .i64 1) ∧ Ext w w' := by
  subst h0
  have n1 : (s != 0) = true := bne_iff_ne.2 h
  go_enter Try.func18, Try.ntmps18
  go_wp2_with fail
  go_ret
  exact ⟨rfl, (Ext.refl w).alloc _⟩

set_option maxHeartbeats 2000000 in
theorem DCheck_0_z (l s : Int) (d : Nat → Int) (w : World) (h0 : l = 0) (h1 : s = 0) (hz : zeroB d = true) :
    Calls Try.prog 18 #[slotVal 0 l s d] w fun e w' => e = .returned (.int .i64 0) ∧ Ext w w' := by
  subst h0 h1
  have hq := eq_zero d
  rw [hz] at hq
  clear hz
  go_enter Try.func18, Try.ntmps18
  go_wp2_with fail
  go_ret
  exact ⟨rfl, (Ext.refl w).alloc _⟩

set_option maxHeartbeats 2000000 in
theorem DCheck_0_n (l s : Int) (d : Nat → Int) (w : World) (h0 : l = 0) (h1 : s = 0) (hz : zeroB d = false) :
    Calls Try.prog 18 #[slotVal 0 l s d] w fun e w' => e = .returned (.int .i64 1) ∧ Ext w w' := by
  subst h0 h1
  have hq := eq_zero d
  rw [hz] at hq
  clear hz
  go_enter Try.func18, Try.ntmps18
  go_wp2_with fail
  go_ret
  exact ⟨rfl, (Ext.refl w).alloc _⟩

set_option maxHeartbeats 2000000 in
theorem DCheck_1_l1 (l s : Int) (d : Nat → Int) (w : World) (h : l < 0) :
    Calls Try.prog 18 #[slotVal 1 l s d] w fun e w' => e = .returned (.int .i64 1) ∧ Ext w w' := by
  go_enter Try.func18, Try.ntmps18
  go_wp2_with fail
  go_ret
  exact ⟨rfl, (Ext.refl w).alloc _⟩

set_option maxHeartbeats 2000000 in
theorem DCheck_1_l2 (l s : Int) (d : Nat → Int) (w : World) (h0 : 0 ≤ l) (h : 65536 < l) :
    Calls Try.prog 18 #[slotVal 1 l s d] w fun e w' => e = .returned (.int .i64 1) ∧ Ext w w' := by
  go_enter Try.func18, Try.ntmps18
  go_wp2_with fail
  go_ret
  exact ⟨rfl, (Ext.refl w).alloc _⟩

set_option maxHeartbeats 2000000 in
theorem DCheck_1_s1 (l s : Int) (d : Nat → Int) (w : World) (h0 : 0 ≤ l) (h1 : l ≤ 65536) (h : s < 1) :
    Calls Try.prog 18 #[slotVal 1 l s d] w fun e w' => e = .returned (.int .i64 1) ∧ Ext w w' := by
  go_enter Try.func18, Try.ntmps18
  go_wp2_with fail
  go_ret
  exact ⟨rfl, (Ext.refl w).alloc _⟩

set_option maxHeartbeats 2000000 in
theorem DCheck_1_s2 (l s : Int) (d : Nat → Int) (w : World) (h0 : 0 ≤ l) (h1 : l ≤ 65536) (h2 : 1 ≤ s) (h : 1099511627776 < s) :
    Calls Try.prog 18 #[slotVal 1 l s d] w fun e w' => e = .returned (.int .i64 1) ∧ Ext w w' := by
  go_enter Try.func18, Try.ntmps18
  go_wp2_with fail
  go_ret
  exact ⟨rfl, (Ext.refl w).alloc _⟩

set_option maxHeartbeats 2000000 in
theorem DCheck_1_ok (l s : Int) (d : Nat → Int) (w : World) (h0 : 0 ≤ l) (h1 : l ≤ 65536) (h2 : 1 ≤ s) (h3 : s ≤ 1099511627776) :
    Calls Try.prog 18 #[slotVal 1 l s d] w fun e w' => e = .returned (.int .i64 0) ∧ Ext w w' := by
  go_enter Try.func18, Try.ntmps18
  go_wp2_with fail
  go_ret
  exact ⟨rfl, (Ext.refl w).alloc _⟩

set_option maxHeartbeats 2000000 in
theorem DCheck_2_l1 (l s : Int) (d : Nat → Int) (w : World) (h : l < 0) :
    Calls Try.prog 18 #[slotVal 2 l s d] w fun e w' => e = .returned (.int .i64 1) ∧ Ext w w' := by
  go_enter Try.func18, Try.ntmps18
  go_wp2_with fail
  go_ret
  exact ⟨rfl, (Ext.refl w).alloc _⟩

set_option maxHeartbeats 2000000 in
theorem DCheck_2_l2 (l s : Int) (d : Nat → Int) (w : World) (h0 : 0 ≤ l) (h : 65536 < l) :
    Calls Try.prog 18 #[slotVal 2 l s d] w fun e w' => e = .returned (.int .i64 1) ∧ Ext w w' := by
  go_enter Try.func18, Try.ntmps18
  go_wp2_with fail
  go_ret
  exact ⟨rfl, (Ext.refl w).alloc _⟩

set_option maxHeartbeats 2000000 in
theorem DCheck_2_s1 (l s : Int) (d : Nat → Int) (w : World) (h0 : 0 ≤ l) (h1 : l ≤ 65536) (h : s < 1) :
    Calls Try.prog 18 #[slotVal 2 l s d] w fun e w' => e = .returned (.int .i64 1) ∧ Ext w w' := by
  go_enter Try.func18, Try.ntmps18
  go_wp2_with fail
  go_ret
  exact ⟨rfl, (Ext.refl w).alloc _⟩

set_option maxHeartbeats 2000000 in
theorem DCheck_2_s2 (l s : Int) (d : Nat → Int) (w : World) (h0 : 0 ≤ l) (h1 : l ≤ 65536) (h2 : 1 ≤ s) (h : 1099511627776 < s) :
    Calls Try.prog 18 #[slotVal 2 l s d] w fun e w' => e = .returned (.int .i64 1) ∧ Ext w w' := by
  go_enter Try.func18, Try.ntmps18
  go_wp2_with fail
  go_ret
  exact ⟨rfl, (Ext.refl w).alloc _⟩

set_option maxHeartbeats 2000000 in
theorem DCheck_2_z (l s : Int) (d : Nat → Int) (w : World) (h0 : 0 ≤ l) (h1 : l ≤ 65536) (h2 : 1 ≤ s) (h3 : s ≤ 1099511627776) (hz : zeroB d = true) :
    Calls Try.prog 18 #[slotVal 2 l s d] w fun e w' => e = .returned (.int .i64 0) ∧ Ext w w' := by
  have hq := eq_zero d
  rw [hz] at hq
  clear hz
  go_enter Try.func18, Try.ntmps18
  go_wp2_with fail
  go_ret
  exact ⟨rfl, (Ext.refl w).alloc _⟩

set_option maxHeartbeats 2000000 in
theorem DCheck_2_n (l s : Int) (d : Nat → Int) (w : World) (h0 : 0 ≤ l) (h1 : l ≤ 65536) (h2 : 1 ≤ s) (h3 : s ≤ 1099511627776) (hz : zeroB d = false) :
    Calls Try.prog 18 #[slotVal 2 l s d] w fun e w' => e = .returned (.int .i64 1) ∧ Ext w w' := by
  have hq := eq_zero d
  rw [hz] at hq
  clear hz
  go_enter Try.func18, Try.ntmps18
  go_wp2_with fail
  go_ret
  exact ⟨rfl, (Ext.refl w).alloc _⟩

set_option maxHeartbeats 2000000 in
theorem DCheck_3_l1 (l s : Int) (d : Nat → Int) (w : World) (h : l ≠ 0) :
    Calls Try.prog 18 #[slotVal 3 l s d] w fun e w' => e = .returned (.int .i64 1) ∧ Ext w w' := by
  have n1 : (l != 0) = true := bne_iff_ne.2 h
  go_enter Try.func18, Try.ntmps18
  go_wp2_with fail
  go_ret
  exact ⟨rfl, (Ext.refl w).alloc _⟩

set_option maxHeartbeats 2000000 in
theorem DCheck_3_s1 (l s : Int) (d : Nat → Int) (w : World) (h0 : l = 0) (h : s ≠ 0) :
    Calls Try.prog 18 #[slotVal 3 l s d] w fun e w' => e = .returned (.int .i64 1) ∧ Ext w w' := by
  subst h0
  have n1 : (s != 0) = true := bne_iff_ne.2 h
  go_enter Try.func18, Try.ntmps18
  go_wp2_with fail
  go_ret
  exact ⟨rfl, (Ext.refl w).alloc _⟩

set_option maxHeartbeats 2000000 in
theorem DCheck_3_z (l s : Int) (d : Nat → Int) (w : World) (h0 : l = 0) (h1 : s = 0) (hz : zeroB d = true) :
    Calls Try.prog 18 #[slotVal 3 l s d] w fun e w' => e = .returned (.int .i64 0) ∧ Ext w w' := by
  subst h0 h1
  have hq := eq_zero d
  rw [hz] at hq
  clear hz
  go_enter Try.func18, Try.ntmps18
  go_wp2_with fail
  go_ret
  exact ⟨rfl, (Ext.refl w).alloc _⟩

set_option maxHeartbeats 2000000 in
theorem DCheck_3_n (l s : Int) (d : Nat → Int) (w : World) (h0 : l = 0) (h1 : s = 0) (hz : zeroB d = false) :
    Calls Try.prog 18 #[slotVal 3 l s d] w fun e w' => e = .returned (.int .i64 1) ∧ Ext w w' := by
  subst h0 h1
  have hq := eq_zero d
  rw [hz] at hq
  clear hz
  go_enter Try.func18, Try.ntmps18
  go_wp2_with fail
  go_ret
  exact ⟨rfl, (Ext.refl w).alloc _⟩

theorem DCheck_calls (k l s : Int) (d : Nat → Int) (w : World) :
    Calls Try.prog 18 #[slotVal k l s d] w fun e w' => e = .returned (.int .i64 (checkF k l s d)) ∧ Ext w w' := by
  by_cases hk : k < 0
  · rw [show checkF k l s d = 1 by rw [checkF, if_pos (.inl hk)]]
    exact DCheck_low k l s d w hk
  · by_cases hk3 : 3 < k
    · rw [show checkF k l s d = 1 by rw [checkF, if_pos (.inr hk3)]]
      exact DCheck_high k l s d w hk3
    · have hk4 : k = 0 ∨ k = 1 ∨ k = 2 ∨ k = 3 := by omega
      rcases hk4 with rfl | rfl | rfl | rfl
      · by_cases a1 : l = 0
        · by_cases a2 : s = 0
          · cases hz : zeroB d with
            | true => rw [show checkF 0 l s d = 0 by rw [checkF, if_neg (by decide), if_neg (by decide), if_neg (by omega), if_pos hz]]; exact DCheck_0_z l s d w a1 a2 hz
            | false => rw [show checkF 0 l s d = 1 by rw [checkF, if_neg (by decide), if_neg (by decide), if_neg (by omega), if_neg (by rw [hz]; decide)]]; exact DCheck_0_n l s d w a1 a2 hz
          · rw [show checkF 0 l s d = 1 by rw [checkF, if_neg (by decide), if_neg (by decide), if_pos (by omega)]]; exact DCheck_0_s1 l s d w a1 a2
        · rw [show checkF 0 l s d = 1 by rw [checkF, if_neg (by decide), if_neg (by decide), if_pos (by omega)]]; exact DCheck_0_l1 l s d w a1
      · by_cases a1 : l < 0
        · rw [show checkF 1 l s d = 1 by rw [checkF, if_neg (by decide), if_pos (by decide), if_pos (by omega)]]; exact DCheck_1_l1 l s d w a1
        by_cases a2 : 65536 < l
        · rw [show checkF 1 l s d = 1 by rw [checkF, if_neg (by decide), if_pos (by decide), if_pos (by omega)]]; exact DCheck_1_l2 l s d w (by omega) a2
        by_cases a3 : s < 1
        · rw [show checkF 1 l s d = 1 by rw [checkF, if_neg (by decide), if_pos (by decide), if_pos (by omega)]]; exact DCheck_1_s1 l s d w (by omega) (by omega) a3
        by_cases a4 : 1099511627776 < s
        · rw [show checkF 1 l s d = 1 by rw [checkF, if_neg (by decide), if_pos (by decide), if_pos (by omega)]]; exact DCheck_1_s2 l s d w (by omega) (by omega) (by omega) a4
        rw [show checkF 1 l s d = 0 by rw [checkF, if_neg (by decide), if_pos (by decide), if_neg (by omega), if_pos (.inl rfl)]]; exact DCheck_1_ok l s d w (by omega) (by omega) (by omega) (by omega)
      · by_cases a1 : l < 0
        · rw [show checkF 2 l s d = 1 by rw [checkF, if_neg (by decide), if_pos (by decide), if_pos (by omega)]]; exact DCheck_2_l1 l s d w a1
        by_cases a2 : 65536 < l
        · rw [show checkF 2 l s d = 1 by rw [checkF, if_neg (by decide), if_pos (by decide), if_pos (by omega)]]; exact DCheck_2_l2 l s d w (by omega) a2
        by_cases a3 : s < 1
        · rw [show checkF 2 l s d = 1 by rw [checkF, if_neg (by decide), if_pos (by decide), if_pos (by omega)]]; exact DCheck_2_s1 l s d w (by omega) (by omega) a3
        by_cases a4 : 1099511627776 < s
        · rw [show checkF 2 l s d = 1 by rw [checkF, if_neg (by decide), if_pos (by decide), if_pos (by omega)]]; exact DCheck_2_s2 l s d w (by omega) (by omega) (by omega) a4
        cases hz : zeroB d with
        | true => rw [show checkF 2 l s d = 0 by rw [checkF, if_neg (by decide), if_pos (by decide), if_neg (by omega), if_pos (.inr hz)]]; exact DCheck_2_z l s d w (by omega) (by omega) (by omega) (by omega) hz
        | false => rw [show checkF 2 l s d = 1 by rw [checkF, if_neg (by decide), if_pos (by decide), if_neg (by omega), if_neg (by rw [hz]; decide)]]; exact DCheck_2_n l s d w (by omega) (by omega) (by omega) (by omega) hz
      · by_cases a1 : l = 0
        · by_cases a2 : s = 0
          · cases hz : zeroB d with
            | true => rw [show checkF 3 l s d = 0 by rw [checkF, if_neg (by decide), if_neg (by decide), if_neg (by omega), if_pos hz]]; exact DCheck_3_z l s d w a1 a2 hz
            | false => rw [show checkF 3 l s d = 1 by rw [checkF, if_neg (by decide), if_neg (by decide), if_neg (by omega), if_neg (by rw [hz]; decide)]]; exact DCheck_3_n l s d w a1 a2 hz
          · rw [show checkF 3 l s d = 1 by rw [checkF, if_neg (by decide), if_neg (by decide), if_pos (by omega)]]; exact DCheck_3_s1 l s d w a1 a2
        · rw [show checkF 3 l s d = 1 by rw [checkF, if_neg (by decide), if_neg (by decide), if_pos (by omega)]]; exact DCheck_3_l1 l s d w a1
end Go.Proofs.Ytmbjebdkhcpclaa
