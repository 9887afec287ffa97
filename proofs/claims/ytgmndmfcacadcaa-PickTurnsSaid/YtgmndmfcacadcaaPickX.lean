/-
  Small words for the laws of what is taken.
-/
import Derived.Test.YtgmndmfcacadcaaPickW
import Derived.Test.YtgmndmfcacadcaaOp
import Derived.Test.YtgmndmfcacadcaaRf
set_option linter.unusedSimpArgs false
set_option linter.unusedVariables false
namespace Go.Proofs.Ytgmndmfcacadcaa
open Go.RowKit

theorem mixed : Try.prog.follows .mixedOrders = true := by kernel_rfl

theorem rdb_take {w : World} {A : Option Addr} {n c : Nat} {bs : List Bool} (h : RdB w (.slice A n c) bs) (k : Nat) (hk : k ≤ bs.length) : RdB w (.slice A k c) (bs.take k) := by
  obtain ⟨A', c', he, h1, h2, h3, h4⟩ := h
  injection he with e1 e2 e3
  subst e1 e3
  have hl : (bs.take k).length = k := by rw [List.length_take]; omega
  refine ⟨A, c, by rw [hl], by omega, h2, fun hne => ?_, fun e => ⟨by have := h4 e; omega, (h4 e).2⟩⟩
  have hne2 : bs.map Value.bool ≠ [] := by
    intro e
    rw [List.map_eq_nil_iff] at e
    rw [e] at hne
    simp at hne
  obtain ⟨b, off, ha, hc⟩ := h3 hne2
  refine ⟨b, off, ha, fun j u hu => hc j u ?_⟩
  rw [List.getElem?_map] at hu ⊢
  have hj : j < k := by
    have := (List.getElem?_eq_some_iff.1 (Option.map_eq_some_iff.1 hu).choose_spec.1).1
    omega
  rw [List.getElem?_take, if_pos hj] at hu
  exact hu

theorem rd_take {w : World} {k : IntKind} {A : Option Addr} {n c : Nat} {xs : List Int} (h : Rd w k (.slice A n c) xs) (m : Nat) (hm : m ≤ xs.length) : Rd w k (.slice A m c) (xs.take m) := by
  have := rd_left (xs := xs.take m) (ys := xs.drop m) (by rw [List.take_append_drop]; exact h)
  rwa [List.length_take, Nat.min_eq_left hm] at this

theorem allowedTo_congr (ms ms' : List Bool) (xs xs' : List Int) (i : Nat) (h : ∀ j, j < i → ms.getD j false = ms'.getD j false ∧ xs.getD j 0 = xs'.getD j 0) : allowedTo ms xs i = allowedTo ms' xs' i := by
  induction i with
  | zero => rfl
  | succ i ih =>
    have h1 := ih fun j hj => h j (by omega)
    obtain ⟨h2, h3⟩ := h i (by omega)
    cases hm : ms.getD i false with
    | true => rw [allowedTo_yes _ _ _ hm, allowedTo_yes _ _ _ (h2 ▸ hm), h1, h3]
    | false => rw [allowedTo_no _ _ _ hm, allowedTo_no _ _ _ (h2 ▸ hm), h1]

theorem getD_take_lt {α : Type} (l : List α) (k j : Nat) (d : α) (h : j < k) : (l.take k).getD j d = l.getD j d := by
  simp [List.getD_eq_getElem?_getD, List.getElem?_take, h]

theorem leastPos_front (ms : List Bool) (xs : List Int) (k : Nat) (h1 : k ≤ ms.length) (h2 : k ≤ xs.length) : leastPos (ms.take k) xs = leastPos (ms.take k) (xs.take k) ∧ leastPos ms (xs.take k) = leastPos (ms.take k) (xs.take k) := by
  have a : (ms.take k).length = k := by rw [List.length_take]; omega
  have b : (xs.take k).length = k := by rw [List.length_take]; omega
  unfold leastPos
  rw [a, b, Nat.min_eq_left h2, Nat.min_eq_right h1, Nat.min_self]
  refine ⟨?_, ?_⟩
  · rw [allowedTo_congr (ms.take k) (ms.take k) xs (xs.take k) k fun j hj => ⟨rfl, (getD_take_lt xs k j 0 hj).symm⟩]
  · rw [allowedTo_congr ms (ms.take k) (xs.take k) (xs.take k) k fun j hj => ⟨(getD_take_lt ms k j false hj).symm, rfl⟩]

theorem coldF_front (ms : List Bool) (xs : List Int) (k : Nat) (o : Int) (h1 : k ≤ ms.length) (h2 : k ≤ xs.length) : coldF ms (xs.take k) o = coldF (ms.take k) (xs.take k) o := by
  unfold coldF
  rw [(leastPos_front ms xs k h1 h2).2]

/-- The two slices cut off, each or both. -/
theorem Two.cutM {w : World} {A : Option Addr} {n c : Nat} {vl : Value} {ms : List Bool} {xs : List Int} (h : Two w (.slice A n c) ms vl xs) (k : Nat) (hk : k ≤ ms.length) : Two w (.slice A k c) (ms.take k) vl xs := ⟨rdb_take h.may k hk, h.row⟩
theorem Two.cutX {w : World} {A : Option Addr} {n c : Nat} {vm : Value} {ms : List Bool} {xs : List Int} (h : Two w vm ms (.slice A n c) xs) (k : Nat) (hk : k ≤ xs.length) : Two w vm ms (.slice A k c) (xs.take k) := ⟨h.may, rd_take h.row k hk⟩
theorem Two.cutB {w : World} {A B : Option Addr} {n c n' c' : Nat} {ms : List Bool} {xs : List Int} (h : Two w (.slice A n c) ms (.slice B n' c') xs) (k : Nat) (hk : k ≤ ms.length) (hk' : k ≤ xs.length) : Two w (.slice A k c) (ms.take k) (.slice B k c') (xs.take k) := (h.cutM k hk).cutX k hk'
end Go.Proofs.Ytgmndmfcacadcaa
