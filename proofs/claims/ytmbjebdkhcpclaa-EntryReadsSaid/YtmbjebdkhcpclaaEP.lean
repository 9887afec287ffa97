/-
  Both readers by the place that has been reached: what a read gives is a matter of the bytes and the place alone.
-/
import Derived.Test.YtmbjebdkhcpclaaEC
set_option linter.unusedSimpArgs false
set_option linter.unusedVariables false
namespace Go.Proofs.Ytmbjebdkhcpclaa
open Go.RowKit

/-- The number of k bytes at place p; nought where bytes lack. -/
def valAt (xs : List Int) (p k : Nat) : Int := if p + k ≤ xs.length then leVal ((xs.drop p).take k) else 0
def intAt (xs : List Int) (p : Nat) : Int := IntKind.i64.wrap (valAt xs p 8)
def byteAt (xs : List Int) (p : Nat) : Int := valAt xs p 1

/-- What a reader holds at place p. -/
def AtP (xs : List Int) (p : Nat) (ys : List Int) (e : Int) : Prop := (p ≤ xs.length ∧ ys = xs.drop p ∧ e = 0) ∨ (xs.length < p ∧ e = 3)

theorem AtP.step {xs : List Int} {p : Nat} {ys : List Int} {e : Int} (h : AtP xs p ys e) (k : Nat) : (readF k ys e).1 = valAt xs p k ∧ AtP xs (p + k) (readF k ys e).2.1 (readF k ys e).2.2 := by
  rcases h with ⟨h1, rfl, rfl⟩ | ⟨h1, rfl⟩
  · have hl : (xs.drop p).length = xs.length - p := List.length_drop
    unfold readF
    rw [if_neg (by decide)]
    by_cases hk : (xs.drop p).length < k
    · rw [if_pos hk, valAt, if_neg (by omega)]
      exact ⟨rfl, .inr ⟨by omega, rfl⟩⟩
    · rw [if_neg hk, valAt, if_pos (by omega)]
      exact ⟨rfl, .inl ⟨by omega, by rw [List.drop_drop], rfl⟩⟩
  · unfold readF
    rw [if_pos (by decide), valAt, if_neg (by omega)]
    exact ⟨rfl, .inr ⟨by omega, rfl⟩⟩

theorem leVal_byte (cs : List Int) (h : ∀ x ∈ cs, 0 ≤ x ∧ x < 256) (hl : cs.length ≤ 1) : 0 ≤ leVal cs ∧ leVal cs < 256 := by
  match cs, hl with
  | [], _ => simp [leVal]
  | [x], _ => have := h x (by simp); simpa [leVal] using this

theorem byteAt_range {xs : List Int} (h : ∀ x ∈ xs, 0 ≤ x ∧ x < 256) (p : Nat) : 0 ≤ byteAt xs p ∧ byteAt xs p < 256 := by
  unfold byteAt valAt
  split
  · exact leVal_byte _ (fun x hx => h x (List.mem_of_mem_drop (List.mem_of_mem_take hx))) (by rw [List.length_take]; omega)
  · omega
theorem intAt_range (xs : List Int) (p : Nat) : -9223372036854775808 ≤ intAt xs p ∧ intAt xs p ≤ 9223372036854775807 := by
  unfold intAt
  rw [IntKind.wrap_i64]
  omega

/-- What is told at place p. -/
def endAt (xs : List Int) (p : Nat) : Int := if xs.length < p then 3 else if p < xs.length then 4 else 0
theorem AtP.end {xs : List Int} {p : Nat} {ys : List Int} {e : Int} (h : AtP xs p ys e) : endF ys e = endAt xs p := by
  rcases h with ⟨h1, rfl, rfl⟩ | ⟨h1, rfl⟩
  · have hl : (xs.drop p).length = xs.length - p := List.length_drop
    have hn : ¬ xs.length < p := by omega
    by_cases hk : p < xs.length
    · rw [endF, endAt, if_neg hn, if_pos hk, if_pos ⟨rfl, by omega⟩]
    · have hz : ¬ ((0 : Int) = 0 ∧ 0 < (xs.drop p).length) := by omega
      rw [endF, endAt, if_neg hn, if_neg hk, if_neg hz]
  · unfold endF endAt
    rw [if_neg (by rintro ⟨h, _⟩; cases h), if_pos h1]

/-- The program's reader over the bytes xs, at place p. -/
def RdP (q : Nat → Prop) (w : World) (g : Nat) (xs : List Int) (p : Nat) : Prop := ∃ ys e, RdS q w g ys e ∧ AtP xs p ys e ∧ ∀ x ∈ ys, 0 ≤ x ∧ x < 256
/-- The document's. -/
def RfP (q : Nat → Prop) (w : World) (g : Nat) (xs : List Int) (p : Nat) : Prop := ∃ ys e, RfS q w g ys e ∧ AtP xs p ys e ∧ ∀ x ∈ ys, 0 ≤ x ∧ x < 256

theorem RdP.ext {q : Nat → Prop} {w w' : World} {g : Nat} {xs : List Int} {p : Nat} (h : RdP q w g xs p) (hE : Ext w w') : RdP q w' g xs p := by
  obtain ⟨ys, e, h1, h2⟩ := h; exact ⟨ys, e, h1.ext hE, h2⟩
theorem RfP.ext {q : Nat → Prop} {w w' : World} {g : Nat} {xs : List Int} {p : Nat} (h : RfP q w g xs p) (hE : Ext w w') : RfP q w' g xs p := by
  obtain ⟨ys, e, h1, h2⟩ := h; exact ⟨ys, e, h1.ext hE, h2⟩
theorem RdP.apart {q : Nat → Prop} {w w' : World} {g g' : Nat} {xs : List Int} {p : Nat} (h : RdP q w g xs p) (hG : w.grownBy w' (some g')) (hg : g ≠ g') (hp : ∀ b, q b → b ≠ g') : RdP q w' g xs p := by
  obtain ⟨ys, e, h1, h2⟩ := h; exact ⟨ys, e, h1.apart hG hg hp, h2⟩
theorem RfP.apart {q : Nat → Prop} {w w' : World} {g g' : Nat} {xs : List Int} {p : Nat} (h : RfP q w g xs p) (hG : w.grownBy w' (some g')) (hg : g ≠ g') (hp : ∀ b, q b → b ≠ g') : RfP q w' g xs p := by
  obtain ⟨ys, e, h1, h2⟩ := h; exact ⟨ys, e, h1.apart hG hg hp, h2⟩

theorem readF_mem (m : Nat) (xs : List Int) (er : Int) : ∀ q ∈ (readF m xs er).2.1, q ∈ xs := by
  intro q hq
  unfold readF at hq
  split at hq
  · exact hq
  · split at hq
    · exact hq
    · exact List.mem_of_mem_drop hq

theorem PInt_calls {q : Nat → Prop} (g : Nat) (xs : List Int) (p : Nat) (w : World) (h : RdP q w g xs p) :
    Calls Try.prog 22 #[.pointer (some ⟨g, 0, none⟩)] w fun e w' => e = .returned (.int .i64 (intAt xs p)) ∧ RdP q w' g xs (p + 8) ∧ w.grownBy w' (some g) := by
  obtain ⟨ys, er, h1, h2, h3⟩ := h
  obtain ⟨s1, s2⟩ := h2.step 8
  refine (RInt_calls g ys er w h1 h3).mono ?_
  rintro e w' ⟨rfl, hR, hG⟩
  exact ⟨by rw [s1]; rfl, ⟨_, _, hR, s2, fun x hx => h3 x (readF_mem _ _ _ x hx)⟩, hG⟩
theorem byte_wrap {xs : List Int} {p : Nat} {ys : List Int} {er : Int} (s1 : (readF 1 ys er).1 = valAt xs p 1) (h3 : ∀ x ∈ ys, 0 ≤ x ∧ x < 256) : IntKind.i64.wrap (readF 1 ys er).1 = byteAt xs p := by
  have hr : 0 ≤ (readF 1 ys er).1 ∧ (readF 1 ys er).1 < 256 := by
    rw [readF_val]
    split
    · simp [leVal]
    · exact leVal_byte _ (fun x hx => h3 x (List.mem_of_mem_take hx)) (by rw [List.length_take]; omega)
  rw [IntKind.wrap_i64]
  rw [s1] at hr ⊢
  unfold byteAt
  omega
theorem PByte_calls {q : Nat → Prop} (g : Nat) (xs : List Int) (p : Nat) (w : World) (h : RdP q w g xs p) :
    Calls Try.prog 23 #[.pointer (some ⟨g, 0, none⟩)] w fun e w' => e = .returned (.int .i64 (byteAt xs p)) ∧ RdP q w' g xs (p + 1) ∧ w.grownBy w' (some g) := by
  obtain ⟨ys, er, h1, h2, h3⟩ := h
  obtain ⟨s1, s2⟩ := h2.step 1
  refine (RByte_calls g ys er w h1 h3).mono ?_
  rintro e w' ⟨rfl, hR, hG⟩
  exact ⟨by rw [byte_wrap s1 h3], ⟨_, _, hR, s2, fun x hx => h3 x (readF_mem _ _ _ x hx)⟩, hG⟩
theorem PEnd_calls {q : Nat → Prop} (g : Nat) (xs : List Int) (p : Nat) (w : World) (h : RdP q w g xs p) :
    Calls Try.prog 24 #[.pointer (some ⟨g, 0, none⟩)] w fun e w' => e = .returned (.int .i64 (endAt xs p)) ∧ w = w' := by
  obtain ⟨ys, er, h1, h2, h3⟩ := h
  refine (REnd_calls g ys er w h1).mono ?_
  rintro e w' ⟨rfl, rfl⟩
  exact ⟨by rw [h2.end], rfl⟩
theorem DInt_calls {q : Nat → Prop} (g : Nat) (xs : List Int) (p : Nat) (w : World) (h : RfP q w g xs p) :
    Calls Try.prog 27 #[.pointer (some ⟨g, 0, none⟩)] w fun e w' => e = .returned (.int .i64 (intAt xs p)) ∧ RfP q w' g xs (p + 8) ∧ w.grownBy w' (some g) := by
  obtain ⟨ys, er, h1, h2, h3⟩ := h
  obtain ⟨s1, s2⟩ := h2.step 8
  refine (QInt_calls g ys er w h1 h3).mono ?_
  rintro e w' ⟨rfl, hR, hG⟩
  exact ⟨by rw [s1]; rfl, ⟨_, _, hR, s2, fun x hx => h3 x (readF_mem _ _ _ x hx)⟩, hG⟩
theorem DByte_calls {q : Nat → Prop} (g : Nat) (xs : List Int) (p : Nat) (w : World) (h : RfP q w g xs p) :
    Calls Try.prog 28 #[.pointer (some ⟨g, 0, none⟩)] w fun e w' => e = .returned (.int .i64 (byteAt xs p)) ∧ RfP q w' g xs (p + 1) ∧ w.grownBy w' (some g) := by
  obtain ⟨ys, er, h1, h2, h3⟩ := h
  obtain ⟨s1, s2⟩ := h2.step 1
  refine (QByte_calls g ys er w h1 h3).mono ?_
  rintro e w' ⟨rfl, hR, hG⟩
  exact ⟨by rw [byte_wrap s1 h3], ⟨_, _, hR, s2, fun x hx => h3 x (readF_mem _ _ _ x hx)⟩, hG⟩
theorem DEnd_calls {q : Nat → Prop} (g : Nat) (xs : List Int) (p : Nat) (w : World) (h : RfP q w g xs p) :
    Calls Try.prog 29 #[.pointer (some ⟨g, 0, none⟩)] w fun e w' => e = .returned (.int .i64 (endAt xs p)) ∧ Ext w w' := by
  obtain ⟨ys, er, h1, h2, h3⟩ := h
  refine (QEnd_calls g ys er w h1).mono ?_
  rintro e w' ⟨rfl, hE⟩
  exact ⟨by rw [h2.end], hE⟩
theorem RdP.new {q : Nat → Prop} {w : World} {g : Nat} {xs : List Int} (h : RdS q w g xs 0) (hx : ∀ x ∈ xs, 0 ≤ x ∧ x < 256) : RdP q w g xs 0 := ⟨xs, 0, h, .inl ⟨Nat.zero_le _, rfl, rfl⟩, hx⟩
theorem RfP.new {q : Nat → Prop} {w : World} {g : Nat} {xs : List Int} (h : RfS q w g xs 0) (hx : ∀ x ∈ xs, 0 ≤ x ∧ x < 256) : RfP q w g xs 0 := ⟨xs, 0, h, .inl ⟨Nat.zero_le _, rfl, rfl⟩, hx⟩

/-- What a reading gives: the error; the head, the slot. -/
def noughtsAt (xs : List Int) : Bool := byteAt xs 44 == 0 && byteAt xs 45 == 0 && byteAt xs 46 == 0 && byteAt xs 47 == 0
def dataAt (xs : List Int) (j : Nat) : Int := byteAt xs (28 + j)
def slotBad (xs : List Int) : Bool := !(noughtsAt xs) || !(decide (1 ≤ intAt xs 0 ∧ intAt xs 0 ≤ 1099511627776)) || !(checkF (byteAt xs 11) (intAt xs 12) (intAt xs 20) (dataAt xs) == 0)
def parseF (xs : List Int) : Int := if endAt xs 48 ≠ 0 then endAt xs 48 else if slotBad xs = true then 5 else 0
def parsed (xs : List Int) : Value :=
  if parseF xs = 0 then .tuple #[headVal (intAt xs 0) (byteAt xs 8) (byteAt xs 9) (byteAt xs 10), slotVal (byteAt xs 11) (intAt xs 12) (intAt xs 20) (dataAt xs), .int .i64 0]
  else .tuple #[headVal 0 0 0 0, slotVal 0 0 0 (fun _ => 0), .int .i64 (parseF xs)]
end Go.Proofs.Ytmbjebdkhcpclaa
