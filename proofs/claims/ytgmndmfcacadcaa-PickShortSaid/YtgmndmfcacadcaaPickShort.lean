/-
  The walk of the law PickShort.
-/
import Derived.Test.YtgmndmfcacadcaaPickX
set_option linter.unusedSimpArgs false
set_option linter.unusedVariables false
namespace Go.Proofs.Ytgmndmfcacadcaa
open Go.RowKit
attribute [local go_sem] slotEval

set_option maxHeartbeats 4000000 in
set_option maxRecDepth 100000 in
theorem PickShort_walk (vm : Value) (ms : List Bool) (vl : Value) (xs : List Int) (n : Int) (w : World) (hm : RdB w vm ms) (hl : Rd w .i64 vl xs) (hw : ∀ n ∈ xs, (Lit.int .i64 n).wf = true) (hn : (Lit.int .i64 n).wf = true) :
    Calls Try.prog 6 #[vm, vl, .int .i64 n] w fun e w' => e = .returned (.bool true) ∧ Ext w w' := by
  obtain ⟨Am, cm, rfl⟩ := hm.shape
  obtain ⟨Al, cl, rfl⟩ := hl.shape
  have H := Lib.hid (Two.mk hm hl)
  have Hw := Lib.hid hw
  have Hn := Lib.hid (bounds_i64 hn)
  have hcm : ms.length ≤ cm ∧ cm ≤ 9223372036854775807 := by obtain ⟨A, c, he, h1, h2, _⟩ := hm; injection he with e1 e2 e3; unfold maxLen at h2; omega
  have hcl : xs.length ≤ cl ∧ cl ≤ 9223372036854775807 := by obtain ⟨A, c, he, h1, h2, _⟩ := hl; injection he with e1 e2 e3; unfold maxLen at h2; omega
  obtain ⟨hcm1, hcm2⟩ := hcm
  obtain ⟨hcl1, hcl2⟩ := hcl
  clear hm hl hw hn
  by_cases hbig : 40 < ms.length ∨ 40 < xs.length
  · go_enter Try.func6, Try.ntmps6
    go_wp2_with fail
    refine (known15_calls w).mono ?_
    rintro e w1 ⟨rfl, hE1⟩
    by_cases h1 : 40 < ms.length
    · go_wp2_with fail
      go_ret
      exact ⟨rfl, hE1⟩
    · have h2 : 40 < xs.length := by omega
      go_wp2_with fail
      go_ret
      exact ⟨rfl, hE1⟩
  · have h1 : ms.length ≤ 40 := by omega
    have h2 : xs.length ≤ 40 := by omega
    clear hbig
    go_enter Try.func6, Try.ntmps6
    go_wp2_with fail
    refine (known15_calls w).mono ?_
    rintro e w1 ⟨rfl, hE1⟩
    rcases Nat.lt_or_ge xs.length ms.length with hle | hle
    · skip
      go_wp2_with fail
      refine (within_calls n (xs.length + 1) w1 (by omega) (by omega) Hn.out).mono ?_
      rintro e w' ⟨rfl, rfl⟩
      have hm1 := Int.emod_nonneg n (b := (xs.length : Int) + 1) (by omega)
      have hm2 := Int.emod_lt_of_pos n (b := (xs.length : Int) + 1) (by omega)
      obtain ⟨k, hk⟩ : ∃ k : Nat, n % (xs.length + 1) = (k : Int) := ⟨(n % (xs.length + 1)).toNat, by omega⟩
      rw [hk] at hm1 hm2
      have hkm : k ≤ ms.length := by omega
      have hkx : k ≤ xs.length := by omega
      rw [hk]
      obtain ⟨V, hV⟩ : ∃ V, leastPos (ms.take k) (xs.take k) = V := ⟨_, rfl⟩
      obtain ⟨C, hC⟩ : ∃ C, coldF (ms.take k) (xs.take k) 9 = C := ⟨_, rfl⟩
      have HV := Lib.hid hV
      have HC := Lib.hid hC
      have HV1 := Lib.hid ((leastPos_front ms xs k hkm hkx).1.trans hV)
      have HV2 := Lib.hid ((leastPos_front ms xs k hkm hkx).2.trans hV)
      have HC2 := Lib.hid ((coldF_front ms xs k 9 hkm hkx).trans hC)
      have H2 := Lib.hid (H.out.ext hE1)
      clear hk hV hC hm1 hm2
      have hkcm : k ≤ cm := by omega
      have hkcl : k ≤ cl := by omega
      go_wp2_with fail
      have hE0 := hE1
      refine wp_region_lives mixed Ext [[0], [1], [2], [3], [4], [5], [6], [7], [8], [9], [10], [11], [12], [13], [14], [15], [16], [17], [18], [19], [20], [21], [22], [23], [24], [25], [26], [27], [28], [29], [30], [31], [32], [33], [34], [35], [36], [37], [38], [39], [40], [41], [42], [43], [44], [45], [46], [47], [48], [49], [50], [51], [52], [53], [54], [55], [56], [57], [58]]
          [.val _ (· = .slice Am ms.length cm),
           .val _ (· = .int .i64 k),
           .val _ (· = .slice Am k cm),
           .val _ (· = .slice Al xs.length cl),
           .val _ (· = .int .i64 V),
           .val _ (· = .slice Am ms.length cm),
           .val _ (· = .int .i64 k),
           .val _ (· = .slice Am k cm),
           .val _ (· = .slice Al xs.length cl),
           .val _ (· = .int .i64 k),
           .val _ (· = .slice Al k cl),
           .val _ (· = .int .i64 V),
           .val _ (· = .bool true),
           .val _ (· = .bool true),
           .val _ (· = .slice Am ms.length cm),
           .val _ (· = .slice Al xs.length cl),
           .val _ (· = .int .i64 k),
           .val _ (· = .slice Al k cl),
           .val _ (· = .int .i64 V),
           .val _ (· = .slice Am ms.length cm),
           .val _ (· = .int .i64 k),
           .val _ (· = .slice Am k cm),
           .val _ (· = .slice Al xs.length cl),
           .val _ (· = .int .i64 k),
           .val _ (· = .slice Al k cl),
           .val _ (· = .int .i64 V),
           .val _ (· = .bool true),
           .val _ (· = .bool true),
           .val _ (· = .bool true),
           .val _ (· = .slice Am ms.length cm),
           .val _ (· = .int .i64 k),
           .val _ (· = .slice Am k cm),
           .val _ (· = .slice Al xs.length cl),
           .val _ (· = .int .i64 V),
           .val _ (· = .slice Am ms.length cm),
           .val _ (· = .int .i64 k),
           .val _ (· = .slice Am k cm),
           .val _ (· = .slice Al xs.length cl),
           .val _ (· = .int .i64 k),
           .val _ (· = .slice Al k cl),
           .val _ (· = .int .i64 V),
           .val _ (· = .bool true),
           .val _ (· = .bool true),
           .val _ (· = .bool true),
           .val _ (· = .slice Am ms.length cm),
           .val _ (· = .slice Al xs.length cl),
           .val _ (· = .int .i64 k),
           .val _ (· = .slice Al k cl),
           .val _ (· = .int .i64 C),
           .val _ (· = .slice Am ms.length cm),
           .val _ (· = .int .i64 k),
           .val _ (· = .slice Am k cm),
           .val _ (· = .slice Al xs.length cl),
           .val _ (· = .int .i64 k),
           .val _ (· = .slice Al k cl),
           .val _ (· = .int .i64 C),
           .val _ (· = .bool true),
           .val _ (· = .bool true),
           .val _ (· = .bool true)]
          Ext.refl (fun _ _ _ h k => h.trans k) (by kernel_rfl) (by kernel_rfl) ?steps ?post
      case steps =>
        refine ⟨?_, ?_, ?_, ?_, ?_, ?_, ?_, ?_, ?_, ?_, ?_, ?_, ?_, ?_, ?_, ?_, ?_, ?_, ?_, ?_, ?_, ?_, ?_, ?_, ?_, ?_, ?_, ?_, ?_, ?_, ?_, ?_, ?_, ?_, ?_, ?_, ?_, ?_, ?_, ?_, ?_, ?_, ?_, ?_, ?_, ?_, ?_, ?_, ?_, ?_, ?_, ?_, ?_, ?_, ?_, ?_, ?_, ?_, ?_, trivial⟩
        · refine fact_pure Ext.refl fun σ w hE hold hk => ?_
          have h0 : σ 0 = .slice Am ms.length cm := hold 0 (by kernel_rfl)
          exact ⟨rfl, _, op_move rfl, h0⟩
        · refine fact_pure Ext.refl fun σ w hE hold hk => ?_
          have h7 : σ 7 = .int .i64 k := hold 7 (by kernel_rfl)
          exact ⟨rfl, _, op_move rfl, h7⟩
        · refine fact_pure Ext.refl fun σ w hE hold hk => ?_
          have h26 : σ 26 = .slice Am ms.length cm := hk.1
          have h27 : σ 27 = .int .i64 k := hk.2.1
          exact ⟨rfl, .slice Am k cm, by go_simp, rfl⟩
        · refine fact_pure Ext.refl fun σ w hE hold hk => ?_
          have h1 : σ 1 = .slice Al xs.length cl := hold 1 (by kernel_rfl)
          exact ⟨rfl, _, op_move rfl, h1⟩
        · intro σ w hE hold hk
          have h28 : σ 28 = .slice Am k cm := hk.1
          have h29 : σ 29 = .slice Al xs.length cl := hk.2.1
          refine ⟨rfl, Does.call (op_call2 rfl Try.func10 (by kernel_rfl) (by kernel_rfl) h28 h29) (Next_calls _ _ _ _ w ((H2.out.ext (Ext.of_drew hE)).cutM k hkm)) ?_⟩
          rintro e w' ⟨rfl, hE'⟩
          exact ⟨_, rfl, hE', by show Value.int .i64 _ = _; rw [HV1.out]⟩
        · refine fact_pure Ext.refl fun σ w hE hold hk => ?_
          have h0 : σ 0 = .slice Am ms.length cm := hold 0 (by kernel_rfl)
          exact ⟨rfl, _, op_move rfl, h0⟩
        · refine fact_pure Ext.refl fun σ w hE hold hk => ?_
          have h7 : σ 7 = .int .i64 k := hold 7 (by kernel_rfl)
          exact ⟨rfl, _, op_move rfl, h7⟩
        · refine fact_pure Ext.refl fun σ w hE hold hk => ?_
          have h31 : σ 31 = .slice Am ms.length cm := hk.1
          have h32 : σ 32 = .int .i64 k := hk.2.1
          exact ⟨rfl, .slice Am k cm, by go_simp, rfl⟩
        · refine fact_pure Ext.refl fun σ w hE hold hk => ?_
          have h1 : σ 1 = .slice Al xs.length cl := hold 1 (by kernel_rfl)
          exact ⟨rfl, _, op_move rfl, h1⟩
        · refine fact_pure Ext.refl fun σ w hE hold hk => ?_
          have h7 : σ 7 = .int .i64 k := hold 7 (by kernel_rfl)
          exact ⟨rfl, _, op_move rfl, h7⟩
        · refine fact_pure Ext.refl fun σ w hE hold hk => ?_
          have h34 : σ 34 = .slice Al xs.length cl := hk.1
          have h35 : σ 35 = .int .i64 k := hk.2.1
          exact ⟨rfl, .slice Al k cl, by go_simp, rfl⟩
        · intro σ w hE hold hk
          have h33 : σ 33 = .slice Am k cm := hk.1
          have h36 : σ 36 = .slice Al k cl := hk.2.1
          refine ⟨rfl, Does.call (op_call2 rfl Try.func12 (by kernel_rfl) (by kernel_rfl) h33 h36) (refNext_calls _ _ _ _ w ((H2.out.ext (Ext.of_drew hE)).cutB k hkm hkx)) ?_⟩
          rintro e w' ⟨rfl, hE'⟩
          exact ⟨_, rfl, hE', by show Value.int .i64 _ = _; rw [HV.out]⟩
        · refine fact_pure Ext.refl fun σ w hE hold hk => ?_
          have h30 : σ 30 = .int .i64 V := hk.1
          have h37 : σ 37 = .int .i64 V := hk.2.1
          exact ⟨rfl, .bool true, by go_simp, rfl⟩
        · refine fact_pure Ext.refl fun σ w hE hold hk => ?_
          have h38 : σ 38 = .bool true := hk.1
          exact ⟨rfl, _, op_move rfl, h38⟩
        · refine fact_pure Ext.refl fun σ w hE hold hk => ?_
          have h39 : σ 39 = .bool true := hk.1
          have h0 : σ 0 = .slice Am ms.length cm := hold 0 (by kernel_rfl)
          exact ⟨(by show (asB (σ 39) == some true) = true; rw [h39]; rfl), _, op_move rfl, h0⟩
        · refine fact_pure Ext.refl fun σ w hE hold hk => ?_
          have h39 : σ 39 = .bool true := hk.1
          have h1 : σ 1 = .slice Al xs.length cl := hold 1 (by kernel_rfl)
          exact ⟨(by show (asB (σ 39) == some true) = true; rw [h39]; rfl), _, op_move rfl, h1⟩
        · refine fact_pure Ext.refl fun σ w hE hold hk => ?_
          have h39 : σ 39 = .bool true := hk.1
          have h7 : σ 7 = .int .i64 k := hold 7 (by kernel_rfl)
          exact ⟨(by show (asB (σ 39) == some true) = true; rw [h39]; rfl), _, op_move rfl, h7⟩
        · refine fact_pure Ext.refl fun σ w hE hold hk => ?_
          have h41 : σ 41 = .slice Al xs.length cl := hk.1
          have h42 : σ 42 = .int .i64 k := hk.2.1
          have h39 : σ 39 = .bool true := hk.2.2.1
          exact ⟨(by show (asB (σ 39) == some true) = true; rw [h39]; rfl), .slice Al k cl, by go_simp, rfl⟩
        · intro σ w hE hold hk
          have h40 : σ 40 = .slice Am ms.length cm := hk.1
          have h43 : σ 43 = .slice Al k cl := hk.2.1
          have h39 : σ 39 = .bool true := hk.2.2.1
          refine ⟨(by show (asB (σ 39) == some true) = true; rw [h39]; rfl), Does.call (op_call2 rfl Try.func10 (by kernel_rfl) (by kernel_rfl) h40 h43) (Next_calls _ _ _ _ w ((H2.out.ext (Ext.of_drew hE)).cutX k hkx)) ?_⟩
          rintro e w' ⟨rfl, hE'⟩
          exact ⟨_, rfl, hE', by show Value.int .i64 _ = _; rw [HV2.out]⟩
        · refine fact_pure Ext.refl fun σ w hE hold hk => ?_
          have h39 : σ 39 = .bool true := hk.1
          have h0 : σ 0 = .slice Am ms.length cm := hold 0 (by kernel_rfl)
          exact ⟨(by show (asB (σ 39) == some true) = true; rw [h39]; rfl), _, op_move rfl, h0⟩
        · refine fact_pure Ext.refl fun σ w hE hold hk => ?_
          have h39 : σ 39 = .bool true := hk.1
          have h7 : σ 7 = .int .i64 k := hold 7 (by kernel_rfl)
          exact ⟨(by show (asB (σ 39) == some true) = true; rw [h39]; rfl), _, op_move rfl, h7⟩
        · refine fact_pure Ext.refl fun σ w hE hold hk => ?_
          have h45 : σ 45 = .slice Am ms.length cm := hk.1
          have h46 : σ 46 = .int .i64 k := hk.2.1
          have h39 : σ 39 = .bool true := hk.2.2.1
          exact ⟨(by show (asB (σ 39) == some true) = true; rw [h39]; rfl), .slice Am k cm, by go_simp, rfl⟩
        · refine fact_pure Ext.refl fun σ w hE hold hk => ?_
          have h39 : σ 39 = .bool true := hk.1
          have h1 : σ 1 = .slice Al xs.length cl := hold 1 (by kernel_rfl)
          exact ⟨(by show (asB (σ 39) == some true) = true; rw [h39]; rfl), _, op_move rfl, h1⟩
        · refine fact_pure Ext.refl fun σ w hE hold hk => ?_
          have h39 : σ 39 = .bool true := hk.1
          have h7 : σ 7 = .int .i64 k := hold 7 (by kernel_rfl)
          exact ⟨(by show (asB (σ 39) == some true) = true; rw [h39]; rfl), _, op_move rfl, h7⟩
        · refine fact_pure Ext.refl fun σ w hE hold hk => ?_
          have h48 : σ 48 = .slice Al xs.length cl := hk.1
          have h49 : σ 49 = .int .i64 k := hk.2.1
          have h39 : σ 39 = .bool true := hk.2.2.1
          exact ⟨(by show (asB (σ 39) == some true) = true; rw [h39]; rfl), .slice Al k cl, by go_simp, rfl⟩
        · intro σ w hE hold hk
          have h47 : σ 47 = .slice Am k cm := hk.1
          have h50 : σ 50 = .slice Al k cl := hk.2.1
          have h39 : σ 39 = .bool true := hk.2.2.2.1
          refine ⟨(by show (asB (σ 39) == some true) = true; rw [h39]; rfl), Does.call (op_call2 rfl Try.func12 (by kernel_rfl) (by kernel_rfl) h47 h50) (refNext_calls _ _ _ _ w ((H2.out.ext (Ext.of_drew hE)).cutB k hkm hkx)) ?_⟩
          rintro e w' ⟨rfl, hE'⟩
          exact ⟨_, rfl, hE', by show Value.int .i64 _ = _; rw [HV.out]⟩
        · refine fact_pure Ext.refl fun σ w hE hold hk => ?_
          have h44 : σ 44 = .int .i64 V := hk.1
          have h51 : σ 51 = .int .i64 V := hk.2.1
          have h39 : σ 39 = .bool true := hk.2.2.1
          exact ⟨(by show (asB (σ 39) == some true) = true; rw [h39]; rfl), .bool true, by go_simp, rfl⟩
        · refine fact_pure Ext.refl fun σ w hE hold hk => ?_
          have h39 : σ 39 = .bool true := hk.1
          have h52 : σ 52 = .bool true := hk.2.1
          exact ⟨rfl, .bool true, by go_simp, rfl⟩
        · refine fact_pure Ext.refl fun σ w hE hold hk => ?_
          have h53 : σ 53 = .bool true := hk.1
          exact ⟨rfl, _, op_move rfl, h53⟩
        · refine fact_pure Ext.refl fun σ w hE hold hk => ?_
          have h54 : σ 54 = .bool true := hk.1
          have h0 : σ 0 = .slice Am ms.length cm := hold 0 (by kernel_rfl)
          exact ⟨(by show (asB (σ 54) == some true) = true; rw [h54]; rfl), _, op_move rfl, h0⟩
        · refine fact_pure Ext.refl fun σ w hE hold hk => ?_
          have h54 : σ 54 = .bool true := hk.1
          have h7 : σ 7 = .int .i64 k := hold 7 (by kernel_rfl)
          exact ⟨(by show (asB (σ 54) == some true) = true; rw [h54]; rfl), _, op_move rfl, h7⟩
        · refine fact_pure Ext.refl fun σ w hE hold hk => ?_
          have h55 : σ 55 = .slice Am ms.length cm := hk.1
          have h56 : σ 56 = .int .i64 k := hk.2.1
          have h54 : σ 54 = .bool true := hk.2.2.1
          exact ⟨(by show (asB (σ 54) == some true) = true; rw [h54]; rfl), .slice Am k cm, by go_simp, rfl⟩
        · refine fact_pure Ext.refl fun σ w hE hold hk => ?_
          have h54 : σ 54 = .bool true := hk.1
          have h1 : σ 1 = .slice Al xs.length cl := hold 1 (by kernel_rfl)
          exact ⟨(by show (asB (σ 54) == some true) = true; rw [h54]; rfl), _, op_move rfl, h1⟩
        · intro σ w hE hold hk
          have h57 : σ 57 = .slice Am k cm := hk.1
          have h58 : σ 58 = .slice Al xs.length cl := hk.2.1
          have h54 : σ 54 = .bool true := hk.2.2.1
          refine ⟨(by show (asB (σ 54) == some true) = true; rw [h54]; rfl), Does.call (op_call2 rfl Try.func13 (by kernel_rfl) (by kernel_rfl) h57 h58) (Oldest_calls _ _ _ _ w ((H2.out.ext (Ext.of_drew hE)).cutM k hkm)) ?_⟩
          rintro e w' ⟨rfl, hE'⟩
          exact ⟨_, rfl, hE', by show Value.int .i64 _ = _; rw [HV1.out]⟩
        · refine fact_pure Ext.refl fun σ w hE hold hk => ?_
          have h54 : σ 54 = .bool true := hk.1
          have h0 : σ 0 = .slice Am ms.length cm := hold 0 (by kernel_rfl)
          exact ⟨(by show (asB (σ 54) == some true) = true; rw [h54]; rfl), _, op_move rfl, h0⟩
        · refine fact_pure Ext.refl fun σ w hE hold hk => ?_
          have h54 : σ 54 = .bool true := hk.1
          have h7 : σ 7 = .int .i64 k := hold 7 (by kernel_rfl)
          exact ⟨(by show (asB (σ 54) == some true) = true; rw [h54]; rfl), _, op_move rfl, h7⟩
        · refine fact_pure Ext.refl fun σ w hE hold hk => ?_
          have h60 : σ 60 = .slice Am ms.length cm := hk.1
          have h61 : σ 61 = .int .i64 k := hk.2.1
          have h54 : σ 54 = .bool true := hk.2.2.1
          exact ⟨(by show (asB (σ 54) == some true) = true; rw [h54]; rfl), .slice Am k cm, by go_simp, rfl⟩
        · refine fact_pure Ext.refl fun σ w hE hold hk => ?_
          have h54 : σ 54 = .bool true := hk.1
          have h1 : σ 1 = .slice Al xs.length cl := hold 1 (by kernel_rfl)
          exact ⟨(by show (asB (σ 54) == some true) = true; rw [h54]; rfl), _, op_move rfl, h1⟩
        · refine fact_pure Ext.refl fun σ w hE hold hk => ?_
          have h54 : σ 54 = .bool true := hk.1
          have h7 : σ 7 = .int .i64 k := hold 7 (by kernel_rfl)
          exact ⟨(by show (asB (σ 54) == some true) = true; rw [h54]; rfl), _, op_move rfl, h7⟩
        · refine fact_pure Ext.refl fun σ w hE hold hk => ?_
          have h63 : σ 63 = .slice Al xs.length cl := hk.1
          have h64 : σ 64 = .int .i64 k := hk.2.1
          have h54 : σ 54 = .bool true := hk.2.2.1
          exact ⟨(by show (asB (σ 54) == some true) = true; rw [h54]; rfl), .slice Al k cl, by go_simp, rfl⟩
        · intro σ w hE hold hk
          have h62 : σ 62 = .slice Am k cm := hk.1
          have h65 : σ 65 = .slice Al k cl := hk.2.1
          have h54 : σ 54 = .bool true := hk.2.2.2.1
          refine ⟨(by show (asB (σ 54) == some true) = true; rw [h54]; rfl), Does.call (op_call2 rfl Try.func14 (by kernel_rfl) (by kernel_rfl) h62 h65) (refOldest_calls _ _ _ _ w ((H2.out.ext (Ext.of_drew hE)).cutB k hkm hkx)) ?_⟩
          rintro e w' ⟨rfl, hE'⟩
          exact ⟨_, rfl, hE', by show Value.int .i64 _ = _; rw [HV.out]⟩
        · refine fact_pure Ext.refl fun σ w hE hold hk => ?_
          have h59 : σ 59 = .int .i64 V := hk.1
          have h66 : σ 66 = .int .i64 V := hk.2.1
          have h54 : σ 54 = .bool true := hk.2.2.1
          exact ⟨(by show (asB (σ 54) == some true) = true; rw [h54]; rfl), .bool true, by go_simp, rfl⟩
        · refine fact_pure Ext.refl fun σ w hE hold hk => ?_
          have h54 : σ 54 = .bool true := hk.1
          have h67 : σ 67 = .bool true := hk.2.1
          exact ⟨rfl, .bool true, by go_simp, rfl⟩
        · refine fact_pure Ext.refl fun σ w hE hold hk => ?_
          have h68 : σ 68 = .bool true := hk.1
          exact ⟨rfl, _, op_move rfl, h68⟩
        · refine fact_pure Ext.refl fun σ w hE hold hk => ?_
          have h69 : σ 69 = .bool true := hk.1
          have h0 : σ 0 = .slice Am ms.length cm := hold 0 (by kernel_rfl)
          exact ⟨(by show (asB (σ 69) == some true) = true; rw [h69]; rfl), _, op_move rfl, h0⟩
        · refine fact_pure Ext.refl fun σ w hE hold hk => ?_
          have h69 : σ 69 = .bool true := hk.1
          have h1 : σ 1 = .slice Al xs.length cl := hold 1 (by kernel_rfl)
          exact ⟨(by show (asB (σ 69) == some true) = true; rw [h69]; rfl), _, op_move rfl, h1⟩
        · refine fact_pure Ext.refl fun σ w hE hold hk => ?_
          have h69 : σ 69 = .bool true := hk.1
          have h7 : σ 7 = .int .i64 k := hold 7 (by kernel_rfl)
          exact ⟨(by show (asB (σ 69) == some true) = true; rw [h69]; rfl), _, op_move rfl, h7⟩
        · refine fact_pure Ext.refl fun σ w hE hold hk => ?_
          have h71 : σ 71 = .slice Al xs.length cl := hk.1
          have h72 : σ 72 = .int .i64 k := hk.2.1
          have h69 : σ 69 = .bool true := hk.2.2.1
          exact ⟨(by show (asB (σ 69) == some true) = true; rw [h69]; rfl), .slice Al k cl, by go_simp, rfl⟩
        · intro σ w hE hold hk
          have h70 : σ 70 = .slice Am ms.length cm := hk.1
          have h73 : σ 73 = .slice Al k cl := hk.2.1
          have h69 : σ 69 = .bool true := hk.2.2.1
          refine ⟨(by show (asB (σ 69) == some true) = true; rw [h69]; rfl), Does.call (op_call3 rfl Try.func11 (by kernel_rfl) (by kernel_rfl) h70 h73 (rfl)) (Cold_calls _ _ _ _ 9 w ((H2.out.ext (Ext.of_drew hE)).cutX k hkx) (fun q hq => Hw.out q (List.mem_of_mem_take hq)) (by decide) (by decide)) ?_⟩
          rintro e w' ⟨rfl, hE'⟩
          exact ⟨_, rfl, hE', by show Value.int .i64 _ = _; rw [HC2.out]⟩
        · refine fact_pure Ext.refl fun σ w hE hold hk => ?_
          have h69 : σ 69 = .bool true := hk.1
          have h0 : σ 0 = .slice Am ms.length cm := hold 0 (by kernel_rfl)
          exact ⟨(by show (asB (σ 69) == some true) = true; rw [h69]; rfl), _, op_move rfl, h0⟩
        · refine fact_pure Ext.refl fun σ w hE hold hk => ?_
          have h69 : σ 69 = .bool true := hk.1
          have h7 : σ 7 = .int .i64 k := hold 7 (by kernel_rfl)
          exact ⟨(by show (asB (σ 69) == some true) = true; rw [h69]; rfl), _, op_move rfl, h7⟩
        · refine fact_pure Ext.refl fun σ w hE hold hk => ?_
          have h75 : σ 75 = .slice Am ms.length cm := hk.1
          have h76 : σ 76 = .int .i64 k := hk.2.1
          have h69 : σ 69 = .bool true := hk.2.2.1
          exact ⟨(by show (asB (σ 69) == some true) = true; rw [h69]; rfl), .slice Am k cm, by go_simp, rfl⟩
        · refine fact_pure Ext.refl fun σ w hE hold hk => ?_
          have h69 : σ 69 = .bool true := hk.1
          have h1 : σ 1 = .slice Al xs.length cl := hold 1 (by kernel_rfl)
          exact ⟨(by show (asB (σ 69) == some true) = true; rw [h69]; rfl), _, op_move rfl, h1⟩
        · refine fact_pure Ext.refl fun σ w hE hold hk => ?_
          have h69 : σ 69 = .bool true := hk.1
          have h7 : σ 7 = .int .i64 k := hold 7 (by kernel_rfl)
          exact ⟨(by show (asB (σ 69) == some true) = true; rw [h69]; rfl), _, op_move rfl, h7⟩
        · refine fact_pure Ext.refl fun σ w hE hold hk => ?_
          have h78 : σ 78 = .slice Al xs.length cl := hk.1
          have h79 : σ 79 = .int .i64 k := hk.2.1
          have h69 : σ 69 = .bool true := hk.2.2.1
          exact ⟨(by show (asB (σ 69) == some true) = true; rw [h69]; rfl), .slice Al k cl, by go_simp, rfl⟩
        · intro σ w hE hold hk
          have h77 : σ 77 = .slice Am k cm := hk.1
          have h80 : σ 80 = .slice Al k cl := hk.2.1
          have h69 : σ 69 = .bool true := hk.2.2.2.1
          refine ⟨(by show (asB (σ 69) == some true) = true; rw [h69]; rfl), Does.call (op_call3 rfl Try.func15 (by kernel_rfl) (by kernel_rfl) h77 h80 (rfl)) (refCold_calls _ _ _ _ 9 w ((H2.out.ext (Ext.of_drew hE)).cutB k hkm hkx) (fun q hq => Hw.out q (List.mem_of_mem_take hq)) (by decide) (by decide)) ?_⟩
          rintro e w' ⟨rfl, hE'⟩
          exact ⟨_, rfl, hE', by show Value.int .i64 _ = _; rw [HC.out]⟩
        · refine fact_pure Ext.refl fun σ w hE hold hk => ?_
          have h74 : σ 74 = .int .i64 C := hk.1
          have h81 : σ 81 = .int .i64 C := hk.2.1
          have h69 : σ 69 = .bool true := hk.2.2.1
          exact ⟨(by show (asB (σ 69) == some true) = true; rw [h69]; rfl), .bool true, by go_simp, rfl⟩
        · refine fact_pure Ext.refl fun σ w hE hold hk => ?_
          have h69 : σ 69 = .bool true := hk.1
          have h82 : σ 82 = .bool true := hk.2.1
          exact ⟨rfl, .bool true, by go_simp, rfl⟩
        · refine fact_pure Ext.refl fun σ w hE hold hk => ?_
          have h83 : σ 83 = .bool true := hk.1
          exact ⟨rfl, _, op_assign rfl, h83⟩
      case post =>
        intro σ w3 hE3 hL
        have h6 : σ 6 = .bool true := hL.2.2.2.2.2.2.2.2.2.2.2.2.2.2.2.2.2.2.2.2.2.2.2.2.2.2.2.2.2.2.2.2.2.2.2.2.2.2.2.2.2.2.2.2.2.2.2.2.2.2.2.2.2.2.2.2.2.2.1
        clear hL
        simp only [putAll, List.map_cons, List.map_nil, List.zip_cons_cons, List.zip_nil_right, List.foldl_cons, List.foldl_nil, Act.put, Option.getD_some, List.setIfInBounds_toArray, List.set_cons_zero, List.set_cons_succ]
        rw [h6]; clear h6
        go_wp2_with fail
        go_ret
        exact ⟨rfl, hE0.trans (Ext.of_drew hE3)⟩
    · skip
      go_wp2_with fail
      refine (within_calls n (ms.length + 1) w1 (by omega) (by omega) Hn.out).mono ?_
      rintro e w' ⟨rfl, rfl⟩
      have hm1 := Int.emod_nonneg n (b := (ms.length : Int) + 1) (by omega)
      have hm2 := Int.emod_lt_of_pos n (b := (ms.length : Int) + 1) (by omega)
      obtain ⟨k, hk⟩ : ∃ k : Nat, n % (ms.length + 1) = (k : Int) := ⟨(n % (ms.length + 1)).toNat, by omega⟩
      rw [hk] at hm1 hm2
      have hkm : k ≤ ms.length := by omega
      have hkx : k ≤ xs.length := by omega
      rw [hk]
      obtain ⟨V, hV⟩ : ∃ V, leastPos (ms.take k) (xs.take k) = V := ⟨_, rfl⟩
      obtain ⟨C, hC⟩ : ∃ C, coldF (ms.take k) (xs.take k) 9 = C := ⟨_, rfl⟩
      have HV := Lib.hid hV
      have HC := Lib.hid hC
      have HV1 := Lib.hid ((leastPos_front ms xs k hkm hkx).1.trans hV)
      have HV2 := Lib.hid ((leastPos_front ms xs k hkm hkx).2.trans hV)
      have HC2 := Lib.hid ((coldF_front ms xs k 9 hkm hkx).trans hC)
      have H2 := Lib.hid (H.out.ext hE1)
      clear hk hV hC hm1 hm2
      have hkcm : k ≤ cm := by omega
      have hkcl : k ≤ cl := by omega
      go_wp2_with fail
      have hE0 := hE1
      refine wp_region_lives mixed Ext [[0], [1], [2], [3], [4], [5], [6], [7], [8], [9], [10], [11], [12], [13], [14], [15], [16], [17], [18], [19], [20], [21], [22], [23], [24], [25], [26], [27], [28], [29], [30], [31], [32], [33], [34], [35], [36], [37], [38], [39], [40], [41], [42], [43], [44], [45], [46], [47], [48], [49], [50], [51], [52], [53], [54], [55], [56], [57], [58]]
          [.val _ (· = .slice Am ms.length cm),
           .val _ (· = .int .i64 k),
           .val _ (· = .slice Am k cm),
           .val _ (· = .slice Al xs.length cl),
           .val _ (· = .int .i64 V),
           .val _ (· = .slice Am ms.length cm),
           .val _ (· = .int .i64 k),
           .val _ (· = .slice Am k cm),
           .val _ (· = .slice Al xs.length cl),
           .val _ (· = .int .i64 k),
           .val _ (· = .slice Al k cl),
           .val _ (· = .int .i64 V),
           .val _ (· = .bool true),
           .val _ (· = .bool true),
           .val _ (· = .slice Am ms.length cm),
           .val _ (· = .slice Al xs.length cl),
           .val _ (· = .int .i64 k),
           .val _ (· = .slice Al k cl),
           .val _ (· = .int .i64 V),
           .val _ (· = .slice Am ms.length cm),
           .val _ (· = .int .i64 k),
           .val _ (· = .slice Am k cm),
           .val _ (· = .slice Al xs.length cl),
           .val _ (· = .int .i64 k),
           .val _ (· = .slice Al k cl),
           .val _ (· = .int .i64 V),
           .val _ (· = .bool true),
           .val _ (· = .bool true),
           .val _ (· = .bool true),
           .val _ (· = .slice Am ms.length cm),
           .val _ (· = .int .i64 k),
           .val _ (· = .slice Am k cm),
           .val _ (· = .slice Al xs.length cl),
           .val _ (· = .int .i64 V),
           .val _ (· = .slice Am ms.length cm),
           .val _ (· = .int .i64 k),
           .val _ (· = .slice Am k cm),
           .val _ (· = .slice Al xs.length cl),
           .val _ (· = .int .i64 k),
           .val _ (· = .slice Al k cl),
           .val _ (· = .int .i64 V),
           .val _ (· = .bool true),
           .val _ (· = .bool true),
           .val _ (· = .bool true),
           .val _ (· = .slice Am ms.length cm),
           .val _ (· = .slice Al xs.length cl),
           .val _ (· = .int .i64 k),
           .val _ (· = .slice Al k cl),
           .val _ (· = .int .i64 C),
           .val _ (· = .slice Am ms.length cm),
           .val _ (· = .int .i64 k),
           .val _ (· = .slice Am k cm),
           .val _ (· = .slice Al xs.length cl),
           .val _ (· = .int .i64 k),
           .val _ (· = .slice Al k cl),
           .val _ (· = .int .i64 C),
           .val _ (· = .bool true),
           .val _ (· = .bool true),
           .val _ (· = .bool true)]
          Ext.refl (fun _ _ _ h k => h.trans k) (by kernel_rfl) (by kernel_rfl) ?steps ?post
      case steps =>
        refine ⟨?_, ?_, ?_, ?_, ?_, ?_, ?_, ?_, ?_, ?_, ?_, ?_, ?_, ?_, ?_, ?_, ?_, ?_, ?_, ?_, ?_, ?_, ?_, ?_, ?_, ?_, ?_, ?_, ?_, ?_, ?_, ?_, ?_, ?_, ?_, ?_, ?_, ?_, ?_, ?_, ?_, ?_, ?_, ?_, ?_, ?_, ?_, ?_, ?_, ?_, ?_, ?_, ?_, ?_, ?_, ?_, ?_, ?_, ?_, trivial⟩
        · refine fact_pure Ext.refl fun σ w hE hold hk => ?_
          have h0 : σ 0 = .slice Am ms.length cm := hold 0 (by kernel_rfl)
          exact ⟨rfl, _, op_move rfl, h0⟩
        · refine fact_pure Ext.refl fun σ w hE hold hk => ?_
          have h7 : σ 7 = .int .i64 k := hold 7 (by kernel_rfl)
          exact ⟨rfl, _, op_move rfl, h7⟩
        · refine fact_pure Ext.refl fun σ w hE hold hk => ?_
          have h26 : σ 26 = .slice Am ms.length cm := hk.1
          have h27 : σ 27 = .int .i64 k := hk.2.1
          exact ⟨rfl, .slice Am k cm, by go_simp, rfl⟩
        · refine fact_pure Ext.refl fun σ w hE hold hk => ?_
          have h1 : σ 1 = .slice Al xs.length cl := hold 1 (by kernel_rfl)
          exact ⟨rfl, _, op_move rfl, h1⟩
        · intro σ w hE hold hk
          have h28 : σ 28 = .slice Am k cm := hk.1
          have h29 : σ 29 = .slice Al xs.length cl := hk.2.1
          refine ⟨rfl, Does.call (op_call2 rfl Try.func10 (by kernel_rfl) (by kernel_rfl) h28 h29) (Next_calls _ _ _ _ w ((H2.out.ext (Ext.of_drew hE)).cutM k hkm)) ?_⟩
          rintro e w' ⟨rfl, hE'⟩
          exact ⟨_, rfl, hE', by show Value.int .i64 _ = _; rw [HV1.out]⟩
        · refine fact_pure Ext.refl fun σ w hE hold hk => ?_
          have h0 : σ 0 = .slice Am ms.length cm := hold 0 (by kernel_rfl)
          exact ⟨rfl, _, op_move rfl, h0⟩
        · refine fact_pure Ext.refl fun σ w hE hold hk => ?_
          have h7 : σ 7 = .int .i64 k := hold 7 (by kernel_rfl)
          exact ⟨rfl, _, op_move rfl, h7⟩
        · refine fact_pure Ext.refl fun σ w hE hold hk => ?_
          have h31 : σ 31 = .slice Am ms.length cm := hk.1
          have h32 : σ 32 = .int .i64 k := hk.2.1
          exact ⟨rfl, .slice Am k cm, by go_simp, rfl⟩
        · refine fact_pure Ext.refl fun σ w hE hold hk => ?_
          have h1 : σ 1 = .slice Al xs.length cl := hold 1 (by kernel_rfl)
          exact ⟨rfl, _, op_move rfl, h1⟩
        · refine fact_pure Ext.refl fun σ w hE hold hk => ?_
          have h7 : σ 7 = .int .i64 k := hold 7 (by kernel_rfl)
          exact ⟨rfl, _, op_move rfl, h7⟩
        · refine fact_pure Ext.refl fun σ w hE hold hk => ?_
          have h34 : σ 34 = .slice Al xs.length cl := hk.1
          have h35 : σ 35 = .int .i64 k := hk.2.1
          exact ⟨rfl, .slice Al k cl, by go_simp, rfl⟩
        · intro σ w hE hold hk
          have h33 : σ 33 = .slice Am k cm := hk.1
          have h36 : σ 36 = .slice Al k cl := hk.2.1
          refine ⟨rfl, Does.call (op_call2 rfl Try.func12 (by kernel_rfl) (by kernel_rfl) h33 h36) (refNext_calls _ _ _ _ w ((H2.out.ext (Ext.of_drew hE)).cutB k hkm hkx)) ?_⟩
          rintro e w' ⟨rfl, hE'⟩
          exact ⟨_, rfl, hE', by show Value.int .i64 _ = _; rw [HV.out]⟩
        · refine fact_pure Ext.refl fun σ w hE hold hk => ?_
          have h30 : σ 30 = .int .i64 V := hk.1
          have h37 : σ 37 = .int .i64 V := hk.2.1
          exact ⟨rfl, .bool true, by go_simp, rfl⟩
        · refine fact_pure Ext.refl fun σ w hE hold hk => ?_
          have h38 : σ 38 = .bool true := hk.1
          exact ⟨rfl, _, op_move rfl, h38⟩
        · refine fact_pure Ext.refl fun σ w hE hold hk => ?_
          have h39 : σ 39 = .bool true := hk.1
          have h0 : σ 0 = .slice Am ms.length cm := hold 0 (by kernel_rfl)
          exact ⟨(by show (asB (σ 39) == some true) = true; rw [h39]; rfl), _, op_move rfl, h0⟩
        · refine fact_pure Ext.refl fun σ w hE hold hk => ?_
          have h39 : σ 39 = .bool true := hk.1
          have h1 : σ 1 = .slice Al xs.length cl := hold 1 (by kernel_rfl)
          exact ⟨(by show (asB (σ 39) == some true) = true; rw [h39]; rfl), _, op_move rfl, h1⟩
        · refine fact_pure Ext.refl fun σ w hE hold hk => ?_
          have h39 : σ 39 = .bool true := hk.1
          have h7 : σ 7 = .int .i64 k := hold 7 (by kernel_rfl)
          exact ⟨(by show (asB (σ 39) == some true) = true; rw [h39]; rfl), _, op_move rfl, h7⟩
        · refine fact_pure Ext.refl fun σ w hE hold hk => ?_
          have h41 : σ 41 = .slice Al xs.length cl := hk.1
          have h42 : σ 42 = .int .i64 k := hk.2.1
          have h39 : σ 39 = .bool true := hk.2.2.1
          exact ⟨(by show (asB (σ 39) == some true) = true; rw [h39]; rfl), .slice Al k cl, by go_simp, rfl⟩
        · intro σ w hE hold hk
          have h40 : σ 40 = .slice Am ms.length cm := hk.1
          have h43 : σ 43 = .slice Al k cl := hk.2.1
          have h39 : σ 39 = .bool true := hk.2.2.1
          refine ⟨(by show (asB (σ 39) == some true) = true; rw [h39]; rfl), Does.call (op_call2 rfl Try.func10 (by kernel_rfl) (by kernel_rfl) h40 h43) (Next_calls _ _ _ _ w ((H2.out.ext (Ext.of_drew hE)).cutX k hkx)) ?_⟩
          rintro e w' ⟨rfl, hE'⟩
          exact ⟨_, rfl, hE', by show Value.int .i64 _ = _; rw [HV2.out]⟩
        · refine fact_pure Ext.refl fun σ w hE hold hk => ?_
          have h39 : σ 39 = .bool true := hk.1
          have h0 : σ 0 = .slice Am ms.length cm := hold 0 (by kernel_rfl)
          exact ⟨(by show (asB (σ 39) == some true) = true; rw [h39]; rfl), _, op_move rfl, h0⟩
        · refine fact_pure Ext.refl fun σ w hE hold hk => ?_
          have h39 : σ 39 = .bool true := hk.1
          have h7 : σ 7 = .int .i64 k := hold 7 (by kernel_rfl)
          exact ⟨(by show (asB (σ 39) == some true) = true; rw [h39]; rfl), _, op_move rfl, h7⟩
        · refine fact_pure Ext.refl fun σ w hE hold hk => ?_
          have h45 : σ 45 = .slice Am ms.length cm := hk.1
          have h46 : σ 46 = .int .i64 k := hk.2.1
          have h39 : σ 39 = .bool true := hk.2.2.1
          exact ⟨(by show (asB (σ 39) == some true) = true; rw [h39]; rfl), .slice Am k cm, by go_simp, rfl⟩
        · refine fact_pure Ext.refl fun σ w hE hold hk => ?_
          have h39 : σ 39 = .bool true := hk.1
          have h1 : σ 1 = .slice Al xs.length cl := hold 1 (by kernel_rfl)
          exact ⟨(by show (asB (σ 39) == some true) = true; rw [h39]; rfl), _, op_move rfl, h1⟩
        · refine fact_pure Ext.refl fun σ w hE hold hk => ?_
          have h39 : σ 39 = .bool true := hk.1
          have h7 : σ 7 = .int .i64 k := hold 7 (by kernel_rfl)
          exact ⟨(by show (asB (σ 39) == some true) = true; rw [h39]; rfl), _, op_move rfl, h7⟩
        · refine fact_pure Ext.refl fun σ w hE hold hk => ?_
          have h48 : σ 48 = .slice Al xs.length cl := hk.1
          have h49 : σ 49 = .int .i64 k := hk.2.1
          have h39 : σ 39 = .bool true := hk.2.2.1
          exact ⟨(by show (asB (σ 39) == some true) = true; rw [h39]; rfl), .slice Al k cl, by go_simp, rfl⟩
        · intro σ w hE hold hk
          have h47 : σ 47 = .slice Am k cm := hk.1
          have h50 : σ 50 = .slice Al k cl := hk.2.1
          have h39 : σ 39 = .bool true := hk.2.2.2.1
          refine ⟨(by show (asB (σ 39) == some true) = true; rw [h39]; rfl), Does.call (op_call2 rfl Try.func12 (by kernel_rfl) (by kernel_rfl) h47 h50) (refNext_calls _ _ _ _ w ((H2.out.ext (Ext.of_drew hE)).cutB k hkm hkx)) ?_⟩
          rintro e w' ⟨rfl, hE'⟩
          exact ⟨_, rfl, hE', by show Value.int .i64 _ = _; rw [HV.out]⟩
        · refine fact_pure Ext.refl fun σ w hE hold hk => ?_
          have h44 : σ 44 = .int .i64 V := hk.1
          have h51 : σ 51 = .int .i64 V := hk.2.1
          have h39 : σ 39 = .bool true := hk.2.2.1
          exact ⟨(by show (asB (σ 39) == some true) = true; rw [h39]; rfl), .bool true, by go_simp, rfl⟩
        · refine fact_pure Ext.refl fun σ w hE hold hk => ?_
          have h39 : σ 39 = .bool true := hk.1
          have h52 : σ 52 = .bool true := hk.2.1
          exact ⟨rfl, .bool true, by go_simp, rfl⟩
        · refine fact_pure Ext.refl fun σ w hE hold hk => ?_
          have h53 : σ 53 = .bool true := hk.1
          exact ⟨rfl, _, op_move rfl, h53⟩
        · refine fact_pure Ext.refl fun σ w hE hold hk => ?_
          have h54 : σ 54 = .bool true := hk.1
          have h0 : σ 0 = .slice Am ms.length cm := hold 0 (by kernel_rfl)
          exact ⟨(by show (asB (σ 54) == some true) = true; rw [h54]; rfl), _, op_move rfl, h0⟩
        · refine fact_pure Ext.refl fun σ w hE hold hk => ?_
          have h54 : σ 54 = .bool true := hk.1
          have h7 : σ 7 = .int .i64 k := hold 7 (by kernel_rfl)
          exact ⟨(by show (asB (σ 54) == some true) = true; rw [h54]; rfl), _, op_move rfl, h7⟩
        · refine fact_pure Ext.refl fun σ w hE hold hk => ?_
          have h55 : σ 55 = .slice Am ms.length cm := hk.1
          have h56 : σ 56 = .int .i64 k := hk.2.1
          have h54 : σ 54 = .bool true := hk.2.2.1
          exact ⟨(by show (asB (σ 54) == some true) = true; rw [h54]; rfl), .slice Am k cm, by go_simp, rfl⟩
        · refine fact_pure Ext.refl fun σ w hE hold hk => ?_
          have h54 : σ 54 = .bool true := hk.1
          have h1 : σ 1 = .slice Al xs.length cl := hold 1 (by kernel_rfl)
          exact ⟨(by show (asB (σ 54) == some true) = true; rw [h54]; rfl), _, op_move rfl, h1⟩
        · intro σ w hE hold hk
          have h57 : σ 57 = .slice Am k cm := hk.1
          have h58 : σ 58 = .slice Al xs.length cl := hk.2.1
          have h54 : σ 54 = .bool true := hk.2.2.1
          refine ⟨(by show (asB (σ 54) == some true) = true; rw [h54]; rfl), Does.call (op_call2 rfl Try.func13 (by kernel_rfl) (by kernel_rfl) h57 h58) (Oldest_calls _ _ _ _ w ((H2.out.ext (Ext.of_drew hE)).cutM k hkm)) ?_⟩
          rintro e w' ⟨rfl, hE'⟩
          exact ⟨_, rfl, hE', by show Value.int .i64 _ = _; rw [HV1.out]⟩
        · refine fact_pure Ext.refl fun σ w hE hold hk => ?_
          have h54 : σ 54 = .bool true := hk.1
          have h0 : σ 0 = .slice Am ms.length cm := hold 0 (by kernel_rfl)
          exact ⟨(by show (asB (σ 54) == some true) = true; rw [h54]; rfl), _, op_move rfl, h0⟩
        · refine fact_pure Ext.refl fun σ w hE hold hk => ?_
          have h54 : σ 54 = .bool true := hk.1
          have h7 : σ 7 = .int .i64 k := hold 7 (by kernel_rfl)
          exact ⟨(by show (asB (σ 54) == some true) = true; rw [h54]; rfl), _, op_move rfl, h7⟩
        · refine fact_pure Ext.refl fun σ w hE hold hk => ?_
          have h60 : σ 60 = .slice Am ms.length cm := hk.1
          have h61 : σ 61 = .int .i64 k := hk.2.1
          have h54 : σ 54 = .bool true := hk.2.2.1
          exact ⟨(by show (asB (σ 54) == some true) = true; rw [h54]; rfl), .slice Am k cm, by go_simp, rfl⟩
        · refine fact_pure Ext.refl fun σ w hE hold hk => ?_
          have h54 : σ 54 = .bool true := hk.1
          have h1 : σ 1 = .slice Al xs.length cl := hold 1 (by kernel_rfl)
          exact ⟨(by show (asB (σ 54) == some true) = true; rw [h54]; rfl), _, op_move rfl, h1⟩
        · refine fact_pure Ext.refl fun σ w hE hold hk => ?_
          have h54 : σ 54 = .bool true := hk.1
          have h7 : σ 7 = .int .i64 k := hold 7 (by kernel_rfl)
          exact ⟨(by show (asB (σ 54) == some true) = true; rw [h54]; rfl), _, op_move rfl, h7⟩
        · refine fact_pure Ext.refl fun σ w hE hold hk => ?_
          have h63 : σ 63 = .slice Al xs.length cl := hk.1
          have h64 : σ 64 = .int .i64 k := hk.2.1
          have h54 : σ 54 = .bool true := hk.2.2.1
          exact ⟨(by show (asB (σ 54) == some true) = true; rw [h54]; rfl), .slice Al k cl, by go_simp, rfl⟩
        · intro σ w hE hold hk
          have h62 : σ 62 = .slice Am k cm := hk.1
          have h65 : σ 65 = .slice Al k cl := hk.2.1
          have h54 : σ 54 = .bool true := hk.2.2.2.1
          refine ⟨(by show (asB (σ 54) == some true) = true; rw [h54]; rfl), Does.call (op_call2 rfl Try.func14 (by kernel_rfl) (by kernel_rfl) h62 h65) (refOldest_calls _ _ _ _ w ((H2.out.ext (Ext.of_drew hE)).cutB k hkm hkx)) ?_⟩
          rintro e w' ⟨rfl, hE'⟩
          exact ⟨_, rfl, hE', by show Value.int .i64 _ = _; rw [HV.out]⟩
        · refine fact_pure Ext.refl fun σ w hE hold hk => ?_
          have h59 : σ 59 = .int .i64 V := hk.1
          have h66 : σ 66 = .int .i64 V := hk.2.1
          have h54 : σ 54 = .bool true := hk.2.2.1
          exact ⟨(by show (asB (σ 54) == some true) = true; rw [h54]; rfl), .bool true, by go_simp, rfl⟩
        · refine fact_pure Ext.refl fun σ w hE hold hk => ?_
          have h54 : σ 54 = .bool true := hk.1
          have h67 : σ 67 = .bool true := hk.2.1
          exact ⟨rfl, .bool true, by go_simp, rfl⟩
        · refine fact_pure Ext.refl fun σ w hE hold hk => ?_
          have h68 : σ 68 = .bool true := hk.1
          exact ⟨rfl, _, op_move rfl, h68⟩
        · refine fact_pure Ext.refl fun σ w hE hold hk => ?_
          have h69 : σ 69 = .bool true := hk.1
          have h0 : σ 0 = .slice Am ms.length cm := hold 0 (by kernel_rfl)
          exact ⟨(by show (asB (σ 69) == some true) = true; rw [h69]; rfl), _, op_move rfl, h0⟩
        · refine fact_pure Ext.refl fun σ w hE hold hk => ?_
          have h69 : σ 69 = .bool true := hk.1
          have h1 : σ 1 = .slice Al xs.length cl := hold 1 (by kernel_rfl)
          exact ⟨(by show (asB (σ 69) == some true) = true; rw [h69]; rfl), _, op_move rfl, h1⟩
        · refine fact_pure Ext.refl fun σ w hE hold hk => ?_
          have h69 : σ 69 = .bool true := hk.1
          have h7 : σ 7 = .int .i64 k := hold 7 (by kernel_rfl)
          exact ⟨(by show (asB (σ 69) == some true) = true; rw [h69]; rfl), _, op_move rfl, h7⟩
        · refine fact_pure Ext.refl fun σ w hE hold hk => ?_
          have h71 : σ 71 = .slice Al xs.length cl := hk.1
          have h72 : σ 72 = .int .i64 k := hk.2.1
          have h69 : σ 69 = .bool true := hk.2.2.1
          exact ⟨(by show (asB (σ 69) == some true) = true; rw [h69]; rfl), .slice Al k cl, by go_simp, rfl⟩
        · intro σ w hE hold hk
          have h70 : σ 70 = .slice Am ms.length cm := hk.1
          have h73 : σ 73 = .slice Al k cl := hk.2.1
          have h69 : σ 69 = .bool true := hk.2.2.1
          refine ⟨(by show (asB (σ 69) == some true) = true; rw [h69]; rfl), Does.call (op_call3 rfl Try.func11 (by kernel_rfl) (by kernel_rfl) h70 h73 (rfl)) (Cold_calls _ _ _ _ 9 w ((H2.out.ext (Ext.of_drew hE)).cutX k hkx) (fun q hq => Hw.out q (List.mem_of_mem_take hq)) (by decide) (by decide)) ?_⟩
          rintro e w' ⟨rfl, hE'⟩
          exact ⟨_, rfl, hE', by show Value.int .i64 _ = _; rw [HC2.out]⟩
        · refine fact_pure Ext.refl fun σ w hE hold hk => ?_
          have h69 : σ 69 = .bool true := hk.1
          have h0 : σ 0 = .slice Am ms.length cm := hold 0 (by kernel_rfl)
          exact ⟨(by show (asB (σ 69) == some true) = true; rw [h69]; rfl), _, op_move rfl, h0⟩
        · refine fact_pure Ext.refl fun σ w hE hold hk => ?_
          have h69 : σ 69 = .bool true := hk.1
          have h7 : σ 7 = .int .i64 k := hold 7 (by kernel_rfl)
          exact ⟨(by show (asB (σ 69) == some true) = true; rw [h69]; rfl), _, op_move rfl, h7⟩
        · refine fact_pure Ext.refl fun σ w hE hold hk => ?_
          have h75 : σ 75 = .slice Am ms.length cm := hk.1
          have h76 : σ 76 = .int .i64 k := hk.2.1
          have h69 : σ 69 = .bool true := hk.2.2.1
          exact ⟨(by show (asB (σ 69) == some true) = true; rw [h69]; rfl), .slice Am k cm, by go_simp, rfl⟩
        · refine fact_pure Ext.refl fun σ w hE hold hk => ?_
          have h69 : σ 69 = .bool true := hk.1
          have h1 : σ 1 = .slice Al xs.length cl := hold 1 (by kernel_rfl)
          exact ⟨(by show (asB (σ 69) == some true) = true; rw [h69]; rfl), _, op_move rfl, h1⟩
        · refine fact_pure Ext.refl fun σ w hE hold hk => ?_
          have h69 : σ 69 = .bool true := hk.1
          have h7 : σ 7 = .int .i64 k := hold 7 (by kernel_rfl)
          exact ⟨(by show (asB (σ 69) == some true) = true; rw [h69]; rfl), _, op_move rfl, h7⟩
        · refine fact_pure Ext.refl fun σ w hE hold hk => ?_
          have h78 : σ 78 = .slice Al xs.length cl := hk.1
          have h79 : σ 79 = .int .i64 k := hk.2.1
          have h69 : σ 69 = .bool true := hk.2.2.1
          exact ⟨(by show (asB (σ 69) == some true) = true; rw [h69]; rfl), .slice Al k cl, by go_simp, rfl⟩
        · intro σ w hE hold hk
          have h77 : σ 77 = .slice Am k cm := hk.1
          have h80 : σ 80 = .slice Al k cl := hk.2.1
          have h69 : σ 69 = .bool true := hk.2.2.2.1
          refine ⟨(by show (asB (σ 69) == some true) = true; rw [h69]; rfl), Does.call (op_call3 rfl Try.func15 (by kernel_rfl) (by kernel_rfl) h77 h80 (rfl)) (refCold_calls _ _ _ _ 9 w ((H2.out.ext (Ext.of_drew hE)).cutB k hkm hkx) (fun q hq => Hw.out q (List.mem_of_mem_take hq)) (by decide) (by decide)) ?_⟩
          rintro e w' ⟨rfl, hE'⟩
          exact ⟨_, rfl, hE', by show Value.int .i64 _ = _; rw [HC.out]⟩
        · refine fact_pure Ext.refl fun σ w hE hold hk => ?_
          have h74 : σ 74 = .int .i64 C := hk.1
          have h81 : σ 81 = .int .i64 C := hk.2.1
          have h69 : σ 69 = .bool true := hk.2.2.1
          exact ⟨(by show (asB (σ 69) == some true) = true; rw [h69]; rfl), .bool true, by go_simp, rfl⟩
        · refine fact_pure Ext.refl fun σ w hE hold hk => ?_
          have h69 : σ 69 = .bool true := hk.1
          have h82 : σ 82 = .bool true := hk.2.1
          exact ⟨rfl, .bool true, by go_simp, rfl⟩
        · refine fact_pure Ext.refl fun σ w hE hold hk => ?_
          have h83 : σ 83 = .bool true := hk.1
          exact ⟨rfl, _, op_assign rfl, h83⟩
      case post =>
        intro σ w3 hE3 hL
        have h6 : σ 6 = .bool true := hL.2.2.2.2.2.2.2.2.2.2.2.2.2.2.2.2.2.2.2.2.2.2.2.2.2.2.2.2.2.2.2.2.2.2.2.2.2.2.2.2.2.2.2.2.2.2.2.2.2.2.2.2.2.2.2.2.2.2.1
        clear hL
        simp only [putAll, List.map_cons, List.map_nil, List.zip_cons_cons, List.zip_nil_right, List.foldl_cons, List.foldl_nil, Act.put, Option.getD_some, List.setIfInBounds_toArray, List.set_cons_zero, List.set_cons_succ]
        rw [h6]; clear h6
        go_wp2_with fail
        go_ret
        exact ⟨rfl, hE0.trans (Ext.of_drew hE3)⟩
end Go.Proofs.Ytgmndmfcacadcaa
