/-
  Contracts of the functions that write numbers as bytes.
-/
import Derived.Test.YtmbjebdkhcpclaaProg
import Derived.Test.YtmbjebdkhcpclaaLb
import Derived.Test.YtmbjebdkhcpclaaNum
set_option linter.unusedSimpArgs false
set_option linter.unusedVariables false
namespace Go.Proofs.Ytmbjebdkhcpclaa
open Go.RowKit

theorem infoU8 : (Try.prog.info? 5).map (fun i => (i.zero, i.size, i.bytes)) = some (some (.int .u8 0), 1, 1) := by kernel_rfl

set_option maxHeartbeats 400000 in
theorem put_calls (v : Value) (xs : List Int) (n : Int) (k : Nat) (w : World) (hk : k ≤ 8) (hx : xs.length ≤ 1000000) (hr : Rd w .u8 v xs) :
    Calls Try.prog 34 #[v, .int .i64 n, .int .i64 k] w fun e w' => ∃ v', e = .returned v' ∧ Own w' w.heap.size 5 .u8 v' (xs ++ leBytes k n) ∧ Ext w w' := by
  go_enter Try.func34, Try.ntmps34
  go_wp2_with (at_builtin; refine wpList_append_nil rfl _ _ 26 5 .u8 1 rfl Try.underlying26 infoU8 (by decide) v xs rfl rfl hr (by omega) ?_; clear hr; intro v1 w1 hO hE)
  go_loopw [7, 8, 12] (fun out i c wr => ∃ j : Nat, j ≤ k ∧ c = .int .i64 j ∧ Own wr w.heap.size 5 .u8 out (xs ++ leBytes j n) ∧ Ext w wr) (fun out i c wr => k - (intOf c).toNat)
  case atStart => exact ⟨0, Nat.zero_le _, rfl, by simpa [leBytes] using hO, hE⟩
  case round =>
    clear hO hE
    obtain ⟨j, hj, rfl, hO, hB⟩ := hrel
    by_cases hlt : j < k
    · go_wp2_with (at_builtin; go_must (refine wpList_append_num (w0 := w) rfl _ _ 26 5 .u8 1 rfl Try.underlying26 infoU8 (by decide) u7 (xs ++ leBytes j n) (byteOf n j) rfl rfl hO hB (by rw [List.length_append, leBytes_length]; omega) ?_); clear hO hB; intro v' w' hO hB)
      go_roundw
      case rel => exact ⟨j + 1, by omega, by go_num, by rw [leBytes_succ, ← List.append_assoc]; exact hO, hB⟩
      case measure => simp [intOf]; omega
    · obtain rfl : j = k := by omega
      go_wp2_with (at_builtin; refine wpList_append_nil rfl _ _ 26 5 .u8 1 rfl Try.underlying26 infoU8 (by decide) u7 (xs ++ leBytes j n) rfl rfl (ownsRow.reads hO) (by rw [List.length_append, leBytes_length]; omega) ?_; clear hO; intro v' w' hO hE)
      go_ret
      exact ⟨_, rfl, ownsRow.base hO hB.size, hB.trans hE⟩

theorem Int_calls (v : Value) (xs : List Int) (n : Int) (w : World) (hx : xs.length ≤ 1000000) (hr : Rd w .u8 v xs) :
    Calls Try.prog 30 #[v, .int .i64 n] w fun e w' => ∃ v', e = .returned v' ∧ Own w' w.heap.size 5 .u8 v' (xs ++ leBytes 8 n) ∧ Ext w w' := by
  have H := Lib.hid hr
  go_enter Try.func30, Try.ntmps30
  go_wp2_with (go_at_call 34; refine (put_calls v xs n 8 w (by decide) hx H.out).mono ?_; rintro e w' ⟨v', rfl, hO, hE⟩)
  go_ret
  exact ⟨_, rfl, hO, hE⟩

theorem Byte_calls (v : Value) (xs : List Int) (n : Int) (w : World) (hx : xs.length ≤ 1000000) (hr : Rd w .u8 v xs) :
    Calls Try.prog 31 #[v, .int .i64 n] w fun e w' => ∃ v', e = .returned v' ∧ Own w' w.heap.size 5 .u8 v' (xs ++ leBytes 1 n) ∧ Ext w w' := by
  have H := Lib.hid hr
  go_enter Try.func31, Try.ntmps31
  go_wp2_with (go_at_call 34; refine (put_calls v xs n 1 w (by decide) hx H.out).mono ?_; rintro e w' ⟨v', rfl, hO, hE⟩)
  go_ret
  exact ⟨_, rfl, hO, hE⟩

set_option maxHeartbeats 400000 in
theorem refInt_calls (v : Value) (xs : List Int) (n : Int) (w : World) (B : Nat) (hB : B ≤ w.heap.size) (hx : xs.length ≤ 1000000) (hO : Own w B 5 .u8 v xs) :
    Calls Try.prog 19 #[v, .int .i64 n] w fun e w' => ∃ v', e = .returned v' ∧ Own w' B 5 .u8 v' (xs ++ leBytes 8 n) ∧ Grew w w' v v' := by
  go_enter Try.func19, Try.ntmps19
  go_wp2_with fail
  go_loopw [0, 5] (fun out c wr => ∃ j : Nat, j ≤ 8 ∧ c = .int .i64 j ∧ Own wr B 5 .u8 out (xs ++ leBytes j n) ∧ Grew w wr v out) (fun out c wr => 8 - (intOf c).toNat)
  case atStart => exact ⟨0, Nat.zero_le _, rfl, by simpa [leBytes] using hO, Grew.refl _ _⟩
  case round =>
    clear hO
    obtain ⟨j, hj, rfl, hO, hG⟩ := hrel
    have hle := hG.grown.size
    by_cases hlt : j < 8
    · go_wp2_with (at_builtin; go_must (refine wpList_append_grew B rfl _ _ 26 5 .u8 1 rfl Try.underlying26 infoU8 (by decide) u0 (xs ++ leBytes j n) (byteOf n j) rfl rfl hO (by omega) (by rw [List.length_append, leBytes_length]; omega) ?_); clear hO; intro v' w' hO hG'; have hG := hG.trans hG'; clear hG')
      go_roundw
      case rel => exact ⟨j + 1, by omega, by go_num, by rw [leBytes_succ, ← List.append_assoc]; exact hO, hG⟩
      case measure => simp [intOf]; omega
    · obtain rfl : j = 8 := by omega
      go_wp2_with fail
      go_ret
      exact ⟨_, rfl, hO, hG⟩

theorem refByte_calls (v : Value) (xs : List Int) (n : Int) (w : World) (B : Nat) (hB : B ≤ w.heap.size) (hx : xs.length ≤ 1000000) (hO : Own w B 5 .u8 v xs) :
    Calls Try.prog 20 #[v, .int .i64 n] w fun e w' => ∃ v', e = .returned v' ∧ Own w' B 5 .u8 v' (xs ++ leBytes 1 n) ∧ Grew w w' v v' := by
  go_enter Try.func20, Try.ntmps20
  go_wp2_with (at_builtin; go_must (refine wpList_append_grew B rfl _ _ 26 5 .u8 1 rfl Try.underlying26 infoU8 (by decide) v xs (n % 256) rfl rfl hO hB (by omega) ?_); clear hO; intro v' w' hO hG')
  go_ret
  exact ⟨_, rfl, by rw [leBytes_one]; exact hO, hG'⟩

/-- A reader at block g: what it has still to read, its error; its bytes lie in an elder block. -/
def RdS (p : Nat → Prop) (w : World) (g : Nat) (xs : List Int) (e : Int) : Prop :=
  ∃ A c, w.heap[g]? = some (.cells #[.slice A xs.length c, .int .i64 e] 61 (0, 0)) ∧ Rd w .u8 (.slice A xs.length c) xs ∧ (∀ ad, A = some ad → ad.block < g ∧ p ad.block)

set_option maxHeartbeats 400000 in
theorem New_calls (v : Value) (xs : List Int) (w : World) (hx : xs.length ≤ 1000000) (hr : Rd w .u8 v xs) :
    Calls Try.prog 21 #[v] w fun e w' => ∃ g, e = .returned (.pointer (some ⟨g, 0, none⟩)) ∧ RdS (w.heap.size ≤ ·) w' g xs 0 ∧ w.heap.size ≤ g ∧ g < w'.heap.size ∧ Ext w w' := by
  go_enter Try.func21, Try.ntmps21
  go_wp2_with (at_builtin; refine wpList_append_nil rfl _ _ 26 5 .u8 1 rfl Try.underlying26 infoU8 (by decide) v xs rfl rfl hr (by omega) ?_; clear hr; intro v1 w1 hO hE; obtain ⟨A1, c1, rfl⟩ := ownsRow.shape hO)
  go_ret
  exact ⟨_, rfl, ⟨_, _, heap_alloc_new w1 _, (ownsRow.reads hO).ext ((Ext.refl _).alloc _), fun ad e => ⟨(hO.lt ad.block (by rw [e]; rfl)).2, (hO.lt ad.block (by rw [e]; rfl)).1⟩⟩, hE.size, by simp, hE.alloc _⟩

end Go.Proofs.Ytmbjebdkhcpclaa
