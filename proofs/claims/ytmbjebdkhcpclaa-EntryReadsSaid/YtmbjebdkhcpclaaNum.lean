/-
  Plain laws on bytes and numbers: lowest byte first.
-/
import Derived.Laws.BitsAllLaws
import Derived.Laws.Bits64
import Derived.WalkKit
set_option linter.unusedSimpArgs false
set_option linter.unusedVariables false
namespace Go.Proofs.Ytmbjebdkhcpclaa

/-- Byte j of a number. -/
def byteOf (n : Int) (j : Nat) : Int := IntKind.u64.wrap n / 2 ^ (8 * j) % 256

/-- The lowest so many bytes of a number, the lowest one first. -/
def leBytes (k : Nat) (n : Int) : List Int := (List.range k).map (byteOf n)

theorem leBytes_length (k : Nat) (n : Int) : (leBytes k n).length = k := by simp [leBytes]
theorem leBytes_one (n : Int) : leBytes 1 n = [n % 256] := by
  simp [leBytes, List.range_succ, byteOf, IntKind.wrap, IntKind.bits, IntKind.signed]
theorem leBytes_succ (k : Nat) (n : Int) : leBytes (k + 1) n = leBytes k n ++ [byteOf n k] := by simp [leBytes, List.range_succ]

theorem byteOf_range (n : Int) (j : Nat) : 0 ≤ byteOf n j ∧ byteOf n j < 256 := by unfold byteOf; omega
theorem leBytes_range (k : Nat) (n : Int) : ∀ x ∈ leBytes k n, 0 ≤ x ∧ x < 256 := by
  intro x hx
  simp only [leBytes, List.mem_map] at hx
  obtain ⟨j, _, rfl⟩ := hx
  exact byteOf_range n j

/-- The lowest byte first. -/
def leVal : List Int → Int
  | [] => 0
  | c :: cs => c + 256 * leVal cs

theorem leVal_snoc (cs : List Int) (q : Int) : leVal (cs ++ [q]) = leVal cs + q * 256 ^ cs.length := by
  induction cs with
  | nil => simp [leVal]
  | cons c cs ih =>
    rw [List.cons_append, leVal, ih, leVal, List.length_cons, Int.mul_add, Int.pow_succ, Int.add_assoc]
    congr 2
    rw [Int.mul_comm 256, Int.mul_assoc]

theorem leVal_range (cs : List Int) (h : ∀ x ∈ cs, 0 ≤ x ∧ x < 256) : 0 ≤ leVal cs ∧ leVal cs < 256 ^ cs.length := by
  induction cs with
  | nil => simp [leVal]
  | cons c cs ih =>
    have h1 := ih fun x hx => h x (List.mem_cons_of_mem _ hx)
    have h2 := h c (List.mem_cons_self ..)
    rw [leVal, List.length_cons, Int.pow_succ]
    omega

theorem pow256 (j : Nat) : (256 : Int) ^ j = 2 ^ (8 * j) := by
  rw [Int.pow_mul]; rfl

theorem or_high (L q : Int) (j : Nat) (h0 : 0 ≤ L) (h1 : L < 2 ^ (8 * j)) (hq : 0 ≤ q) (hq1 : q < 256) (hj : j < 8) : bits .or .u64 L (IntKind.u64.wrap (q * 2 ^ (8 * j))) = L + q * 2 ^ (8 * j) := by
  obtain ⟨l, rfl⟩ := Int.eq_ofNat_of_zero_le h0
  obtain ⟨b, rfl⟩ := Int.eq_ofNat_of_zero_le hq
  have hl : l < 2 ^ (8 * j) := by
    have : ((2 ^ (8 * j) : Nat) : Int) = 2 ^ (8 * j) := by simp
    rw [← this] at h1
    exact Int.ofNat_lt.1 h1
  have hb : b < 256 := by omega
  have e : ((b : Int) * 2 ^ (8 * j)) = ((b * 2 ^ (8 * j) : Nat) : Int) := by simp
  have hp : b * 2 ^ (8 * j) < 18446744073709551616 := by
    have : b * 2 ^ (8 * j) ≤ 255 * 2 ^ (8 * 7) := Nat.mul_le_mul (by omega) (Nat.pow_le_pow_right (by decide) (by omega))
    omega
  have hp2 : 2 ^ (8 * j) ≤ 2 ^ (8 * 7) := Nat.pow_le_pow_right (by decide) (by omega)
  rw [e, IntKind.wrap_u64, Int.emod_eq_of_lt (by omega) (by omega), u64_or_nat _ _ (by omega) hp]
  have := Nat.two_pow_add_eq_or_of_lt hl b
  rw [Nat.or_comm, Nat.mul_comm b, ← this]
  omega

theorem or_low (u q : Int) (h0 : 0 ≤ u) (h1 : u < 72057594037927936) (hq : 0 ≤ q) (hq1 : q < 256) : bits .or .u64 (IntKind.u64.wrap (u * 256)) q = q + 256 * u := by
  obtain ⟨l, rfl⟩ := Int.eq_ofNat_of_zero_le h0
  obtain ⟨b, rfl⟩ := Int.eq_ofNat_of_zero_le hq
  have e : ((l : Int) * 256) = ((l * 256 : Nat) : Int) := by simp
  rw [e, IntKind.wrap_u64, Int.emod_eq_of_lt (by omega) (by omega), u64_or_nat _ _ (by omega) (by omega)]
  have := Nat.two_pow_add_eq_or_of_lt (i := 8) (b := b) (by omega) l
  rw [show 2 ^ 8 * l = l * 256 by omega] at this
  rw [← this]
  omega

theorem emod_mul_256 (m d : Int) (hd : 0 < d) : m % (d * 256) = m % d + m / d % 256 * d := by
  have h1 := Int.emod_add_mul_ediv m d
  have h2 := Int.emod_add_mul_ediv (m / d) 256
  have h3 := Int.emod_nonneg m (by omega : d ≠ 0)
  have h4 := Int.emod_lt_of_pos m hd
  have h5 := Int.emod_nonneg (m / d) (by decide : (256 : Int) ≠ 0)
  have h6 := Int.emod_lt_of_pos (m / d) (by decide : (0 : Int) < 256)
  have e : m = (m % d + m / d % 256 * d) + (d * 256) * (m / d / 256) := by
    calc m = m % d + d * (m / d) := h1.symm
      _ = m % d + d * (m / d % 256 + 256 * (m / d / 256)) := by rw [h2]
      _ = _ := by rw [Int.mul_add, Int.mul_assoc, Int.mul_comm (m / d % 256) d]; omega
  have hb : m / d % 256 * d ≤ 255 * d := Int.mul_le_mul_of_nonneg_right (by omega) (by omega)
  have hn : 0 ≤ m / d % 256 * d := Int.mul_nonneg h5 (by omega)
  rw [show m % (d * 256) = ((m % d + m / d % 256 * d) + (d * 256) * (m / d / 256)) % (d * 256) from by rw [← e], Int.add_mul_emod_self_left]
  exact Int.emod_eq_of_lt (by omega) (by omega)

theorem leVal_leBytes (k : Nat) (n : Int) (hk : k ≤ 8) : leVal (leBytes k n) = IntKind.u64.wrap n % 256 ^ k := by
  induction k with
  | zero => simp [leBytes, leVal, Int.emod_one]
  | succ k ih =>
    rw [leBytes_succ, leVal_snoc, ih (by omega), leBytes_length]
    unfold byteOf
    rw [← pow256]
    generalize IntKind.u64.wrap n = m
    have hpos : (0 : Int) < 256 ^ k := Int.pow_pos (by decide)
    rw [Int.pow_succ, emod_mul_256 _ _ hpos]

/-- A number's eight bytes say that number again. -/
theorem leVal_int (n : Int) (h : -9223372036854775808 ≤ n ∧ n ≤ 9223372036854775807) : IntKind.i64.wrap (leVal (leBytes 8 n)) = n := by
  rw [leVal_leBytes 8 n (by decide), IntKind.wrap_u64, IntKind.wrap_i64]
  have : (256 : Int) ^ 8 = 18446744073709551616 := by decide
  rw [this]
  omega

theorem and255 (a : Int) (h0 : 0 ≤ a) (h1 : a < 18446744073709551616) : bits .and .u64 a 255 = a % 256 := by
  obtain ⟨n, rfl⟩ := Int.eq_ofNat_of_zero_le h0
  have := u64_and_nat n 255 (by omega) (by decide)
  rw [show ((255 : Nat) : Int) = 255 from rfl] at this
  rw [this, show (255 : Nat) = 2 ^ 8 - 1 from rfl, Nat.and_two_pow_sub_one_eq_mod]
  rfl

theorem byte_and (q : Int) (j : Nat) : bits .and .u64 (IntKind.u64.wrap q / 2 ^ (8 * j)) 255 = byteOf q j := by
  have h1 : 0 ≤ IntKind.u64.wrap q ∧ IntKind.u64.wrap q < 18446744073709551616 := by rw [IntKind.wrap_u64]; omega
  have hp : (0 : Int) < 2 ^ (8 * j) := Int.pow_pos (by decide)
  rw [and255 _ (Int.ediv_nonneg h1.1 (by omega)) (by have := Int.ediv_le_self (2 ^ (8 * j)) h1.1; omega)]
  rfl

theorem leVal_one (q : Int) : leVal [q] = q := by simp [leVal]

end Go.Proofs.Ytmbjebdkhcpclaa
