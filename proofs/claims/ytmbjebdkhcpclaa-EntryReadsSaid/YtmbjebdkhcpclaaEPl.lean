/-
  What a reading gives of a slot's bytes; equality of slots and heads.
-/
import Derived.Test.YtmbjebdkhcpclaaEBy
import Derived.Test.YtmbjebdkhcpclaaEGood
set_option linter.unusedSimpArgs false
set_option linter.unusedVariables false
namespace Go.Proofs.Ytmbjebdkhcpclaa
open Go.RowKit

theorem valAt_mid {xs A B C : List Int} {p k : Nat} (h : xs = A ++ (B ++ C)) (hp : A.length = p) (hk : B.length = k) : valAt xs p k = leVal B := by
  subst h hp hk
  unfold valAt
  rw [if_pos (by simp only [List.length_append]; omega), List.drop_left, List.take_left]

/-- A slot's bytes with any bytes behind. -/
def entryZ (a b c e k l s : Int) (d : Nat → Int) (Z : List Int) : List Int := frontBytes a b c e k l s ++ dataList d ++ Z
theorem entryZ_zeros (a b c e k l s : Int) (d : Nat → Int) : entryBytes a b c e k l s d = entryZ a b c e k l s d (List.replicate 4 0) := rfl
theorem entryZ_length (a b c e k l s : Int) (d : Nat → Int) (Z : List Int) : (entryZ a b c e k l s d Z).length = 44 + Z.length := by simp [entryZ, frontBytes_length]; omega
section
variable (a b c e k l s : Int) (d : Nat → Int) (Z : List Int)
theorem z_serial (ha : -9223372036854775808 ≤ a ∧ a ≤ 9223372036854775807) : intAt (entryZ a b c e k l s d Z) 0 = a := by
  rw [intAt, valAt_mid (p := 0) (k := 8) (A := []) (B := leBytes 8 a) (C := leBytes 1 b ++ (leBytes 1 c ++ (leBytes 1 e ++ (leBytes 1 k ++ (leBytes 8 l ++ (leBytes 8 s ++ (dataList d ++ Z))))))) (by simp [entryZ, frontBytes]) rfl (leBytes_length _ _)]
  exact leVal_int a ha
theorem z_super : byteAt (entryZ a b c e k l s d Z) 8 = b % 256 := by
  rw [byteAt, valAt_mid (A := leBytes 8 a) (B := leBytes 1 b) (C := leBytes 1 c ++ (leBytes 1 e ++ (leBytes 1 k ++ (leBytes 8 l ++ (leBytes 8 s ++ (dataList d ++ Z)))))) (by simp [entryZ, frontBytes]) (by simp [leBytes_length]) (leBytes_length _ _), leBytes_one, leVal_one]
theorem z_row : byteAt (entryZ a b c e k l s d Z) 9 = c % 256 := by
  rw [byteAt, valAt_mid (A := leBytes 8 a ++ leBytes 1 b) (B := leBytes 1 c) (C := leBytes 1 e ++ (leBytes 1 k ++ (leBytes 8 l ++ (leBytes 8 s ++ (dataList d ++ Z))))) (by simp [entryZ, frontBytes]) (by simp [leBytes_length]) (leBytes_length _ _), leBytes_one, leVal_one]
theorem z_die : byteAt (entryZ a b c e k l s d Z) 10 = e % 256 := by
  rw [byteAt, valAt_mid (A := leBytes 8 a ++ leBytes 1 b ++ leBytes 1 c) (B := leBytes 1 e) (C := leBytes 1 k ++ (leBytes 8 l ++ (leBytes 8 s ++ (dataList d ++ Z)))) (by simp [entryZ, frontBytes]) (by simp [leBytes_length]) (leBytes_length _ _), leBytes_one, leVal_one]
theorem z_kind : byteAt (entryZ a b c e k l s d Z) 11 = k % 256 := by
  rw [byteAt, valAt_mid (A := leBytes 8 a ++ leBytes 1 b ++ leBytes 1 c ++ leBytes 1 e) (B := leBytes 1 k) (C := leBytes 8 l ++ (leBytes 8 s ++ (dataList d ++ Z))) (by simp [entryZ, frontBytes]) (by simp [leBytes_length]) (leBytes_length _ _), leBytes_one, leVal_one]
theorem z_lba (hl : -9223372036854775808 ≤ l ∧ l ≤ 9223372036854775807) : intAt (entryZ a b c e k l s d Z) 12 = l := by
  rw [intAt, valAt_mid (A := leBytes 8 a ++ leBytes 1 b ++ leBytes 1 c ++ leBytes 1 e ++ leBytes 1 k) (B := leBytes 8 l) (C := leBytes 8 s ++ (dataList d ++ Z)) (by simp [entryZ, frontBytes]) (by simp [leBytes_length]) (leBytes_length _ _)]
  exact leVal_int l hl
theorem z_seq (hs : -9223372036854775808 ≤ s ∧ s ≤ 9223372036854775807) : intAt (entryZ a b c e k l s d Z) 20 = s := by
  rw [intAt, valAt_mid (A := leBytes 8 a ++ leBytes 1 b ++ leBytes 1 c ++ leBytes 1 e ++ leBytes 1 k ++ leBytes 8 l) (B := leBytes 8 s) (C := dataList d ++ Z) (by simp [entryZ, frontBytes]) (by simp [leBytes_length]) (leBytes_length _ _)]
  exact leVal_int s hs
theorem dataList_split (j : Nat) (h : j < 16) : dataList d = (dataList d).take j ++ (d j :: (dataList d).drop (j + 1)) := by
  have h2 : j < (dataList d).length := h
  conv => lhs; rw [← List.take_append_drop j (dataList d), List.drop_eq_getElem_cons h2]
  have := dataList_get d j h
  rw [List.getD_eq_getElem?_getD, List.getElem?_eq_getElem h2, Option.getD_some] at this
  rw [this]
theorem z_data (j : Nat) (h : j < 16) : dataAt (entryZ a b c e k l s d Z) j = d j := by
  rw [dataAt, byteAt, valAt_mid (p := 28 + j) (k := 1) (A := frontBytes a b c e k l s ++ (dataList d).take j) (B := [d j]) (C := (dataList d).drop (j + 1) ++ Z) (by
    unfold entryZ
    conv => lhs; rw [dataList_split d j h]
    simp) (by rw [List.length_append, frontBytes_length, List.length_take]; show 28 + min j 16 = _; omega) rfl, leVal_one]
theorem z_tail (i : Nat) (h : i < Z.length) : byteAt (entryZ a b c e k l s d Z) (44 + i) = Z.getD i 0 := by
  rw [byteAt, valAt_mid (p := 44 + i) (k := 1) (A := frontBytes a b c e k l s ++ dataList d ++ Z.take i) (B := [Z.getD i 0]) (C := Z.drop (i + 1)) (by
    unfold entryZ
    conv => lhs; rw [← List.take_append_drop i Z, List.drop_eq_getElem_cons h]
    rw [List.getD_eq_getElem?_getD, List.getElem?_eq_getElem h, Option.getD_some]
    simp) (by rw [List.length_append, List.length_append, frontBytes_length, List.length_take]; show 28 + 16 + min i Z.length = _; omega) rfl, leVal_one]
end

theorem zeroB_congr (d e : Nat → Int) (h : ∀ j, j < 16 → d j = e j) : zeroB d = zeroB e := by
  unfold zeroB
  rw [Bool.eq_iff_iff]
  simp only [List.all_eq_true, List.mem_range]
  exact ⟨fun q j hj => by rw [← h j hj]; exact q j hj, fun q j hj => by rw [h j hj]; exact q j hj⟩
theorem checkF_congr (k l s : Int) (d e : Nat → Int) (h : ∀ j, j < 16 → d j = e j) : checkF k l s d = checkF k l s e := by
  unfold checkF
  rw [zeroB_congr d e h]

/-- What a reading of a slot's bytes gives: an error of its head or its noughts, else the slot. -/
def zBad (a k l s : Int) (d : Nat → Int) (Z : List Int) : Bool := !(Z.getD 0 0 == 0 && Z.getD 1 0 == 0 && Z.getD 2 0 == 0 && Z.getD 3 0 == 0) || !(decide (1 ≤ a ∧ a ≤ 1099511627776)) || !(checkF (k % 256) l s d == 0)
theorem slotBad_z (a b c e k l s : Int) (d : Nat → Int) (Z : List Int) (hZ : Z.length = 4) (ha : -9223372036854775808 ≤ a ∧ a ≤ 9223372036854775807) (hl : -9223372036854775808 ≤ l ∧ l ≤ 9223372036854775807) (hs : -9223372036854775808 ≤ s ∧ s ≤ 9223372036854775807) :
    slotBad (entryZ a b c e k l s d Z) = zBad a k l s d Z := by
  unfold slotBad noughtsAt zBad
  rw [show byteAt (entryZ a b c e k l s d Z) 44 = Z.getD 0 0 from z_tail a b c e k l s d Z 0 (by omega), show byteAt (entryZ a b c e k l s d Z) 45 = Z.getD 1 0 from z_tail a b c e k l s d Z 1 (by omega),
    show byteAt (entryZ a b c e k l s d Z) 46 = Z.getD 2 0 from z_tail a b c e k l s d Z 2 (by omega), show byteAt (entryZ a b c e k l s d Z) 47 = Z.getD 3 0 from z_tail a b c e k l s d Z 3 (by omega),
    z_serial _ _ _ _ _ _ _ _ _ ha, z_kind, z_lba _ _ _ _ _ _ _ _ _ hl, z_seq _ _ _ _ _ _ _ _ _ hs, checkF_congr _ _ _ _ d (fun j hj => z_data a b c e k l s d Z j hj)]
theorem endAt_z (a b c e k l s : Int) (d : Nat → Int) (Z : List Int) (hZ : Z.length = 4) : endAt (entryZ a b c e k l s d Z) 48 = 0 := by
  unfold endAt
  rw [entryZ_length, hZ]
  rfl
theorem parseF_z (a b c e k l s : Int) (d : Nat → Int) (Z : List Int) (hZ : Z.length = 4) (ha : -9223372036854775808 ≤ a ∧ a ≤ 9223372036854775807) (hl : -9223372036854775808 ≤ l ∧ l ≤ 9223372036854775807) (hs : -9223372036854775808 ≤ s ∧ s ≤ 9223372036854775807) :
    parseF (entryZ a b c e k l s d Z) = if zBad a k l s d Z = true then 5 else 0 := by
  rw [parseF, endAt_z _ _ _ _ _ _ _ _ _ hZ, if_neg (fun h => h rfl), slotBad_z _ _ _ _ _ _ _ _ _ hZ ha hl hs]
theorem parsed_z (a b c e k l s : Int) (d : Nat → Int) (Z : List Int) (hZ : Z.length = 4) (ha : -9223372036854775808 ≤ a ∧ a ≤ 9223372036854775807) (hl : -9223372036854775808 ≤ l ∧ l ≤ 9223372036854775807) (hs : -9223372036854775808 ≤ s ∧ s ≤ 9223372036854775807)
    (h : zBad a k l s d Z = false) : parsed (entryZ a b c e k l s d Z) = .tuple #[headVal a (b % 256) (c % 256) (e % 256), slotVal (k % 256) l s d, .int .i64 0] := by
  have hp := parseF_z a b c e k l s d Z hZ ha hl hs
  rw [h, if_neg (by decide)] at hp
  rw [parsed, if_pos hp, z_serial _ _ _ _ _ _ _ _ _ ha, z_super, z_row, z_die, z_kind, z_lba _ _ _ _ _ _ _ _ _ hl, z_seq _ _ _ _ _ _ _ _ _ hs]
  unfold slotVal
  rw [slotCells_congr _ _ _ _ d (fun j hj => z_data a b c e k l s d Z j hj)]
theorem parsed_bad (xs : List Int) (h : parseF xs ≠ 0) : parsed xs = .tuple #[headVal 0 0 0 0, slotVal 0 0 0 (fun _ => 0), .int .i64 (parseF xs)] := by rw [parsed, if_neg h]
/-- The shape of what a reading gives. -/
theorem parsed_shape (xs : List Int) : ∃ (x y z u k l s : Int) (d : Nat → Int), parsed xs = .tuple #[headVal x y z u, slotVal k l s d, .int .i64 (parseF xs)] := by
  by_cases h : parseF xs = 0
  · rw [parsed, if_pos h, h]; exact ⟨_, _, _, _, _, _, _, _, rfl⟩
  · rw [parsed, if_neg h]; exact ⟨_, _, _, _, _, _, _, _, rfl⟩
/-- The number that an error is. -/
theorem parseF_range (xs : List Int) : parseF xs = 0 ∨ parseF xs = 3 ∨ parseF xs = 4 ∨ parseF xs = 5 := by
  unfold parseF endAt
  by_cases h1 : xs.length < 48
  · rw [if_pos h1]; exact .inr (.inl rfl)
  · rw [if_neg h1]
    by_cases h2 : 48 < xs.length
    · rw [if_pos h2]; exact .inr (.inr (.inl rfl))
    · rw [if_neg h2, if_neg (fun h => h rfl)]
      by_cases h3 : slotBad xs = true
      · rw [if_pos h3]; exact .inr (.inr (.inr rfl))
      · rw [if_neg h3]; exact .inl rfl

/-- A slot that may be. -/
theorem good_check (k l s : Int) (d : Nat → Int) : checkF (k % 4) (goodL k l) (goodS k s) (goodD k d) = 0 := by
  have hq : k % 4 = 0 ∨ k % 4 = 1 ∨ k % 4 = 2 ∨ k % 4 = 3 := by omega
  have hz : zeroB (fun _ => 0) = true := by decide
  rcases hq with q | q | q | q
  · simp [checkF, goodL, goodS, goodD, q, hz]
  · simp [checkF, goodL, goodS, goodD, q]; omega
  · simp [checkF, goodL, goodS, goodD, q, hz]; omega
  · simp [checkF, goodL, goodS, goodD, q, hz]
theorem goodL_range (k l : Int) : 0 ≤ goodL k l ∧ goodL k l < 100 := by unfold goodL; split <;> omega
theorem goodS_range (k s : Int) : 0 ≤ goodS k s ∧ goodS k s ≤ 1000 := by unfold goodS; split <;> omega
theorem good_zBad (a k l s : Int) (d : Nat → Int) (Z : List Int) : zBad a (k % 4) (goodL k l) (goodS k s) (goodD k d) Z = (!(Z.getD 0 0 == 0 && Z.getD 1 0 == 0 && Z.getD 2 0 == 0 && Z.getD 3 0 == 0) || !(decide (1 ≤ a ∧ a ≤ 1099511627776))) := by
  unfold zBad
  rw [show k % 4 % 256 = k % 4 by omega, good_check]
  simp
theorem goodD_eq (k : Int) (d : Nat → Int) (j : Nat) : goodD k d j = if k % 4 = 1 then d j else 0 := by unfold goodD; split <;> rfl

/-! Equality of heads and slots. -/
theorem eq_data9 (d e : Nat → Int) (w : World) : (Op.equalIn 9999 22 (.agg (dataCells d)) (.agg (dataCells e))).run Try.prog w = .ok ((List.range 16).all fun j => d j == e j) w :=
  run_equal_array 9997 22 5 .u8 16 _ _ Try.underlying22 Try.underlying5 (size_u8 w) d e fun j hj => ⟨part_u8 w (dataCells_get d j hj), part_u8 w (dataCells_get e j hj)⟩
def headB (x y z u x' y' z' u' : Int) : Bool := x == x' && y == y' && z == z' && u == u'
def slotB (k l s : Int) (d : Nat → Int) (k' l' s' : Int) (d' : Nat → Int) : Bool := k == k' && l == l' && s == s' && (List.range 16).all fun j => d j == d' j
theorem eq_head (x y z u x' y' z' u' : Int) (w : World) : (Op.equalIn 10000 30 (headVal x y z u) (headVal x' y' z' u')).run Try.prog w = .ok (headB x y z u x' y' z' u') w := by
  unfold headB
  cases h1 : (x == x') <;> cases h2 : (y == y') <;> cases h3 : (z == z') <;> cases h4 : (u == u') <;> go_simp
theorem eq_slot (k l s : Int) (d : Nat → Int) (k' l' s' : Int) (d' : Nat → Int) (w : World) : (Op.equalIn 10000 24 (slotVal k l s d) (slotVal k' l' s' d')).run Try.prog w = .ok (slotB k l s d k' l' s' d') w := by
  unfold slotB
  have h := eq_data9 d d' w
  generalize ((List.range 16).all fun j => d j == d' j) = q at h ⊢
  cases h1 : (k == k') <;> cases h2 : (l == l') <;> cases h3 : (s == s') <;> cases q <;> go_simp
end Go.Proofs.Ytmbjebdkhcpclaa
