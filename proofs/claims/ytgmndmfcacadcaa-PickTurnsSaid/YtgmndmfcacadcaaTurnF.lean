/-
  Taken again and again, the least each time: the plain law.
-/
import Derived.Test.YtgmndmfcacadcaaPickX
import Derived.Test.YtgmndmfcacadcaaMk
set_option linter.unusedSimpArgs false
set_option linter.unusedVariables false
namespace Go.Proofs.Ytgmndmfcacadcaa
open Go.RowKit

theorem sum_set (xs : List Int) (k : Nat) (v : Int) (h : k < xs.length) : (xs.set k v).sum = xs.sum - xs.getD k 0 + v := by
  induction xs generalizing k with
  | nil => simp at h
  | cons x xs ih =>
    cases k with
    | zero => simp only [List.set_cons_zero, List.sum_cons, List.getD_cons_zero]; omega
    | succ k =>
      have := ih k (by simpa using h)
      simp only [List.set_cons_succ, List.sum_cons, List.getD_cons_succ]
      omega
theorem sum_le (xs : List Int) (c : Int) (h : ∀ j, j < xs.length → xs.getD j 0 ≤ c) : xs.sum ≤ c * xs.length := by
  induction xs with
  | nil => simp
  | cons x xs ih =>
    have h0 := h 0 (by simp)
    have := ih fun j hj => by have := h (j + 1) (by simpa using hj); simpa using this
    simp only [List.getD_cons_zero] at h0
    simp only [List.sum_cons, List.length_cons]
    have e : c * ((xs.length + 1 : Nat) : Int) = c * xs.length + c := by push_cast; rw [Int.mul_add, Int.mul_one]
    rw [e]
    omega
theorem sum_ge (xs : List Int) (h : ∀ j, j < xs.length → 0 ≤ xs.getD j 0) : 0 ≤ xs.sum := by
  induction xs with
  | nil => simp
  | cons x xs ih =>
    have h0 := h 0 (by simp)
    have := ih fun j hj => by have := h (j + 1) (by simpa using hj); simpa using this
    simp only [List.getD_cons_zero] at h0
    simp only [List.sum_cons]
    omega

theorem getD_set (xs : List Int) (k j : Nat) (v : Int) (h : k < xs.length) : (xs.set k v).getD j 0 = if j = k then v else xs.getD j 0 := by
  simp only [List.getD_eq_getElem?_getD, List.getElem?_set]
  by_cases hk : k = j
  · subst hk; simp [h]
  · rw [if_neg hk, if_neg (fun e => hk e.symm)]

/-- After t turns. -/
structure Turned (N : Nat) (x0 xs : List Int) (t : Nat) : Prop where
  len : xs.length = N
  grown : ∀ j, j < N → x0.getD j 0 ≤ xs.getD j 0
  low : ∀ j, j < N → 0 ≤ xs.getD j 0
  high : ∀ j, j < N → xs.getD j 0 ≤ 4 + t
  way : ((∀ j, j < N → xs.getD j 0 ≤ 4) ∧ (t : Int) ≤ xs.sum) ∨ (∀ i j, i < N → j < N → xs.getD i 0 ≤ xs.getD j 0 + 1)

theorem Turned.start {N : Nat} {x0 : List Int} (hl : x0.length = N) (h0 : ∀ j, j < N → 0 ≤ x0.getD j 0) (h4 : ∀ j, j < N → x0.getD j 0 ≤ 4) : Turned N x0 x0 0 :=
  ⟨hl, fun _ _ => Int.le_refl _, h0, fun j hj => by have := h4 j hj; omega, .inl ⟨h4, by have := sum_ge x0 (fun j hj => h0 j (by omega)); simpa using this⟩⟩

theorem Turned.turn {N : Nat} {x0 xs : List Int} {t k : Nat} (h : Turned N x0 xs t) (hk : k < N) (hmin : ∀ j, j < N → xs.getD k 0 ≤ xs.getD j 0) : Turned N x0 (xs.set k (xs.getD k 0 + 1)) (t + 1) := by
  have hkl : k < xs.length := by rw [h.len]; exact hk
  refine ⟨by rw [List.length_set]; exact h.len, fun j hj => ?_, fun j hj => ?_, fun j hj => ?_, ?_⟩
  · rw [getD_set _ _ _ _ hkl]
    have := h.grown j hj
    split
    · rename_i e; subst e; omega
    · exact this
  · rw [getD_set _ _ _ _ hkl]
    have := h.low j hj
    split
    · rename_i e; subst e; omega
    · exact this
  · rw [getD_set _ _ _ _ hkl]
    have := h.high j hj
    push_cast
    split
    · rename_i e; subst e; omega
    · omega
  · have other : (∀ j, j < N → xs.getD j 0 ≤ xs.getD k 0 + 1) → ∀ i j, i < N → j < N → (xs.set k (xs.getD k 0 + 1)).getD i 0 ≤ (xs.set k (xs.getD k 0 + 1)).getD j 0 + 1 := by
      intro hs i j hi hj
      rw [getD_set _ _ _ _ hkl, getD_set _ _ _ _ hkl]
      have hi' := hs i hi
      have hj' := hmin j hj
      split <;> split <;> omega
    rcases h.way with ⟨h4, hsum⟩ | hspread
    · by_cases h3 : xs.getD k 0 ≤ 3
      · refine .inl ⟨fun j hj => ?_, ?_⟩
        · rw [getD_set _ _ _ _ hkl]
          split
          · omega
          · exact h4 j hj
        · rw [sum_set _ _ _ hkl]
          push_cast
          omega
      · refine .inr (other fun j hj => ?_)
        have := h4 j hj
        omega
    · refine .inr fun i j hi hj => ?_
      rw [getD_set _ _ _ _ hkl, getD_set _ _ _ _ hkl]
      have h1 := hspread i j hi hj
      have h2 := hmin j hj
      have h3 := hmin i hi
      have h5 := hspread i k hi hk
      split <;> split <;> omega

theorem Turned.spread {N : Nat} {x0 xs : List Int} {t : Nat} (h : Turned N x0 xs t) (hN : 0 < N) (ht : 5 * N ≤ t) : ∀ i j, i < N → j < N → xs.getD i 0 ≤ xs.getD j 0 + 1 := by
  rcases h.way with ⟨h4, hsum⟩ | hs
  · have := sum_le xs 4 (fun j hj => h4 j (by rw [← h.len]; exact hj))
    rw [h.len] at this
    omega
  · exact hs
end Go.Proofs.Ytgmndmfcacadcaa
