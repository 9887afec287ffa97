/-
  The bytes of a slot.
-/
import Derived.Test.YtmbjebdkhcpclaaEB
import Derived.Test.YtmbjebdkhcpclaaRv
import Derived.Test.YtmbjebdkhcpclaaZe
set_option linter.unusedSimpArgs false
set_option linter.unusedVariables false
namespace Go.Proofs.Ytmbjebdkhcpclaa
open Go.RowKit

@[reducible] def dataList (d : Nat → Int) : List Int := [d 0, d 1, d 2, d 3, d 4, d 5, d 6, d 7, d 8, d 9, d 10, d 11, d 12, d 13, d 14, d 15]
theorem dataList_nums (d : Nat → Int) : nums .u8 (dataList d) = (dataCells d).toList := rfl
theorem dataList_get (d : Nat → Int) (j : Nat) (h : j < 16) : (dataList d).getD j 0 = d j := by
  have : j = 0 ∨ j = 1 ∨ j = 2 ∨ j = 3 ∨ j = 4 ∨ j = 5 ∨ j = 6 ∨ j = 7 ∨ j = 8 ∨ j = 9 ∨ j = 10 ∨ j = 11 ∨ j = 12 ∨ j = 13 ∨ j = 14 ∨ j = 15 := by omega
  rcases this with rfl | rfl | rfl | rfl | rfl | rfl | rfl | rfl | rfl | rfl | rfl | rfl | rfl | rfl | rfl | rfl <;> rfl
/-- The front of a slot's bytes: what stands ahead of the sector. -/
def frontBytes (a b c e k l s : Int) : List Int := leBytes 8 a ++ leBytes 1 b ++ leBytes 1 c ++ leBytes 1 e ++ leBytes 1 k ++ leBytes 8 l ++ leBytes 8 s
theorem frontBytes_length (a b c e k l s : Int) : (frontBytes a b c e k l s).length = 28 := by simp [frontBytes, leBytes_length]
/-- A slot's bytes. -/
def entryBytes (a b c e k l s : Int) (d : Nat → Int) : List Int := frontBytes a b c e k l s ++ dataList d ++ List.replicate 4 0
theorem entryBytes_length (a b c e k l s : Int) (d : Nat → Int) : (entryBytes a b c e k l s d).length = 48 := by simp [entryBytes, frontBytes_length]
theorem SlotAt.rd {w : World} {b : Nat} {k l s : Int} {d : Nat → Int} (h : SlotAt w b k l s d) : Rd w .u8 (.slice (some ⟨b, 3, none⟩) 16 16) (dataList d) := by
  refine ⟨_, _, rfl, Nat.le_refl 16, by decide, fun _ => ⟨b, 3, rfl, fun j u hu => ?_⟩, fun e => by cases e⟩
  have hj : j < 16 := by have := (List.getElem?_eq_some_iff.1 hu).1; simpa [nums] using this
  have h2 := slotCells_get k l s d j hj
  have h3 := dataCells_get d j hj
  rw [dataList_nums] at hu
  rw [Nat.mul_one, ← Array.getElem?_toList, hu] at h3
  rw [h3]
  exact (h.byte j hj).1
theorem SlotAt.below {B : Nat} {w w' : World} {b : Nat} {k l s : Int} {d : Nat → Int} (h : SlotAt w b k l s d) (hE : Below B w w') (hb : b < B) : SlotAt w' b k l s d := (hE.block b hb).trans h
theorem HeadAt.below {B : Nat} {w w' : World} {b : Nat} {x y z u : Int} (h : HeadAt w b x y z u) (hE : Below B w w') (hb : b < B) : HeadAt w' b x y z u := (hE.block b hb).trans h
end Go.Proofs.Ytmbjebdkhcpclaa
