/-
  The walk of the law CodeBack.
-/
import Derived.Test.YtjonbihhalnleaaCodeLess
set_option linter.unusedSimpArgs false
set_option linter.unusedVariables false
namespace Go.Proofs.Ytjonbihhalnleaa
open Go.RowKit
attribute [local go_sem] slotEval

/-- One item as bytes. -/
def itemBytes (p : Int × Bool) : List Int := leBytes (if p.2 then 1 else 8) p.1
def itemsBytes (l : List (Int × Bool)) : List Int := l.flatMap itemBytes
theorem itemBytes_length (p : Int × Bool) : (itemBytes p).length ≤ 8 := by unfold itemBytes; rw [leBytes_length]; split <;> decide
theorem itemsBytes_length (l : List (Int × Bool)) : (itemsBytes l).length ≤ 8 * l.length := by
  induction l with
  | nil => simp [itemsBytes]
  | cons p l ih =>
    have := itemBytes_length p
    simp only [itemsBytes, List.flatMap_cons, List.length_append, List.length_cons] at ih ⊢
    omega
theorem itemsBytes_range (l : List (Int × Bool)) : ∀ x ∈ itemsBytes l, 0 ≤ x ∧ x < 256 := by
  intro x hx
  obtain ⟨p, _, hp⟩ := List.mem_flatMap.1 hx
  exact leBytes_range _ _ x hp
theorem itemsBytes_snoc1 (l : List (Int × Bool)) (q : Int) : itemsBytes (l ++ [(q, true)]) = itemsBytes l ++ leBytes 1 q := by simp [itemsBytes, itemBytes]
theorem itemsBytes_snoc8 (l : List (Int × Bool)) (q : Int) : itemsBytes (l ++ [(q, false)]) = itemsBytes l ++ leBytes 8 q := by simp [itemsBytes, itemBytes]
theorem itemsBytes_cons1 (l : List (Int × Bool)) (q : Int) : itemsBytes ((q, true) :: l) = leBytes 1 q ++ itemsBytes l := by simp [itemsBytes, itemBytes]
theorem itemsBytes_cons8 (l : List (Int × Bool)) (q : Int) : itemsBytes ((q, false) :: l) = leBytes 8 q ++ itemsBytes l := by simp [itemsBytes, itemBytes]
theorem readF_front (k : Nat) (xs ys : List Int) (h : xs.length = k) : readF k (xs ++ ys) 0 = (leVal xs, ys, 0) := by
  rw [readF, if_neg (by decide), if_neg (by rw [List.length_append]; omega), List.take_left' h, List.drop_left' h]
/-- The items of a call. -/
def itemsOf (ns : List Int) (ks : List Bool) (n : Nat) : List (Int × Bool) := (List.range n).map fun i => (ns.getD i 0, ks.getD i false)
theorem itemsOf_length (ns : List Int) (ks : List Bool) (n : Nat) : (itemsOf ns ks n).length = n := by simp [itemsOf]
theorem itemsOf_take (ns : List Int) (ks : List Bool) (n i : Nat) (h : i < n) : (itemsOf ns ks n).take (i + 1) = (itemsOf ns ks n).take i ++ [(ns.getD i 0, ks.getD i false)] := by
  rw [List.take_succ_eq_append_getElem (by rw [itemsOf_length]; exact h)]
  simp [itemsOf]
theorem itemsOf_drop (ns : List Int) (ks : List Bool) (n i : Nat) (h : i < n) : (itemsOf ns ks n).drop i = (ns.getD i 0, ks.getD i false) :: (itemsOf ns ks n).drop (i + 1) := by
  rw [List.drop_eq_getElem_cons (by rw [itemsOf_length]; exact h)]
  simp [itemsOf]

set_option maxHeartbeats 2000000 in
set_option maxRecDepth 100000 in
theorem CodeBack_walk (vns : Value) (ns : List Int) (vks : Value) (ks : List Bool) (w : World) (hns : Rd w .i64 vns ns) (hwf : ∀ n ∈ ns, (Lit.int .i64 n).wf = true) (hks : RdB w vks ks) :
    Calls Try.prog 7 #[vns, vks] w fun e w' => e = .returned (.bool true) ∧ Ext w w' := by
  obtain ⟨An, cn, rfl⟩ := hns.shape
  obtain ⟨Ak, ck, rfl⟩ := hks.shape
  have hlen : ns.length ≤ maxLen := by obtain ⟨A, c, he, h1, h2, _⟩ := hns; omega
  have hlenk : ks.length ≤ maxLen := by obtain ⟨A, c, he, h1, h2, _⟩ := hks; omega
  unfold maxLen at hlen hlenk
  have hns := Lib.hid hns
  have hks := Lib.hid hks
  have Hwf := Lib.hid hwf
  clear hwf
  go_enter Try.func7, Try.ntmps7
  go_wp2_with fail
  refine (known1_calls w).mono ?_
  rintro e w1 ⟨rfl, hE1⟩
  go_wp2_with fail
  · obtain ⟨n, hn⟩ : ∃ n : Nat, (30 : Int) = n := ⟨30, rfl⟩
    have hnl : n ≤ ns.length := by omega
    have hn30 : n ≤ 30 := by omega
    rw [hn]
    clear hn
    go_loopw [5, 7] (fun bv iv wr => ∃ i : Nat, i ≤ n ∧ iv = .int .i64 i ∧ Own wr w.heap.size 5 .u8 bv (itemsBytes ((itemsOf ns ks n).take i)) ∧ Ext w wr) (fun bv iv wr => n - (intOf iv).toNat)
    case atStart => exact ⟨0, Nat.zero_le _, rfl, own_nil _ _ _ _, hE1⟩
    case round =>
      obtain ⟨i, hi, rfl, hO, hE⟩ := hrel
      have HO := Lib.hid hO
      have hbl : (itemsBytes ((itemsOf ns ks n).take i)).length ≤ 240 := by
        have h1 := itemsBytes_length ((itemsOf ns ks n).take i)
        have h2 : ((itemsOf ns ks n).take i).length ≤ 30 := by rw [List.length_take]; omega
        omega
      have hE0 := hE
      by_cases hlt : i < n
      · obtain ⟨b, off, cap, he', hcap, hcapm, hcells⟩ := Rd.pos (hns.out.ext hE) (by omega)
        injection he' with e1 e2 e3
        subst e1 e3
        unfold maxLen at hcapm
        have hcell := hcells i (by omega)
        obtain ⟨q, hq⟩ : ∃ q, ns.getD i 0 = q := ⟨_, rfl⟩
        rw [hq] at hcell
        have htk := itemsOf_take ns ks n i hlt
        rw [hq] at htk
        have Htk := Lib.hid htk
        clear hcells hq htk hO
        by_cases hk : i < ks.length
        · obtain ⟨bk, offk, capk, he', hcapk, hcapmk, hcellsk⟩ := RdB.pos (hks.out.ext hE) (by omega)
          injection he' with e1 e2 e3
          subst e1 e3
          unfold maxLen at hcapmk
          have hcellk := hcellsk i hk
          obtain ⟨kb, hkb⟩ : ∃ kb, ks.getD i false = kb := ⟨_, rfl⟩
          rw [hkb] at hcellk
          have Hkb := Lib.hid hkb
          clear hcellsk hkb
          cases kb with
          | true =>
            go_wp2_with fail
            refine (Byte_calls _ _ q wr (by omega) (ownsRow.reads HO.out)).mono ?_
            rintro e w2 ⟨v2, rfl, hO2, hE2⟩
            have HO2 := Lib.hid hO2
            clear hO2
            go_wp2_with fail
            go_roundw
            case rel => exact ⟨i + 1, by omega, by go_num, by rw [Htk.out, Hkb.out, itemsBytes_snoc1]; exact ownsRow.base HO2.out hE0.size, hE0.trans hE2⟩
            case measure => simp [intOf]; omega
          | false =>
            go_wp2_with fail
            refine (Int_calls _ _ q wr (by omega) (ownsRow.reads HO.out)).mono ?_
            rintro e w2 ⟨v2, rfl, hO2, hE2⟩
            have HO2 := Lib.hid hO2
            clear hO2
            go_wp2_with fail
            go_roundw
            case rel => exact ⟨i + 1, by omega, by go_num, by rw [Htk.out, Hkb.out, itemsBytes_snoc8]; exact ownsRow.base HO2.out hE0.size, hE0.trans hE2⟩
            case measure => simp [intOf]; omega
        · have Hkb : Hid (ks.getD i false = false) := Lib.hid (by rw [List.getD_eq_getElem?_getD, List.getElem?_eq_none (by omega)]; rfl)
          go_wp2_with fail
          refine (Int_calls _ _ q wr (by omega) (ownsRow.reads HO.out)).mono ?_
          rintro e w2 ⟨v2, rfl, hO2, hE2⟩
          have HO2 := Lib.hid hO2
          clear hO2
          go_wp2_with fail
          go_roundw
          case rel => exact ⟨i + 1, by omega, by go_num, by rw [Htk.out, Hkb.out, itemsBytes_snoc8]; exact ownsRow.base HO2.out hE0.size, hE0.trans hE2⟩
          case measure => simp [intOf]; omega
      · obtain rfl : i = n := by omega
        have hall : (itemsOf ns ks i).take i = itemsOf ns ks i := List.take_of_length_le (by rw [itemsOf_length]; exact Nat.le_refl _)
        rw [hall] at HO hbl
        go_wp2_with fail
        refine (New_calls _ _ wr (by omega) (ownsRow.reads HO.out)).mono ?_
        rintro e w2 ⟨g, rfl, hR, hg, hgl, hE2⟩
        have HR := Lib.hid (hR.weaken (q := fun _ => True) (fun _ _ => trivial))
        have hE := hE0.trans hE2
        have hwg : w.heap.size ≤ g := Nat.le_trans hE0.size hg
        clear hR hO HO hE2 hE1 hall hg hgl hE0
        go_wp2_with fail
        go_loopw [9] (fun jv wr => ∃ j : Nat, j ≤ i ∧ jv = .int .i64 j ∧ RdS (fun _ => True) wr g (itemsBytes ((itemsOf ns ks i).drop j)) 0 ∧ Ext w wr) (fun jv wr => i - (intOf jv).toNat)
        case atStart => exact ⟨0, Nat.zero_le _, rfl, HR.out, hE⟩
        case round =>
          obtain ⟨j, hj, rfl, hR, hE⟩ := hrel
          have HR := Lib.hid hR
          have hE0 := hE
          clear hR
          by_cases hlt : j < i
          · obtain ⟨b, off, cap, he', hcap, hcapm, hcells⟩ := Rd.pos hns.out (by omega)
            injection he' with e1 e2 e3
            subst e1 e3
            unfold maxLen at hcapm
            have hcell := hcells j (by omega)
            have hqr := bounds_i64 (Hwf.out (ns.getD j 0) (by rw [List.getD_eq_getElem?_getD, List.getElem?_eq_getElem (by omega)]; exact List.getElem_mem _))
            have hbw : b < w.heap.size := World.block_lt_of_cell? w _ hcell
            obtain ⟨q, hq⟩ : ∃ q, ns.getD j 0 = q := ⟨_, rfl⟩
            rw [hq] at hcell hqr
            have hdr := itemsOf_drop ns ks i j hlt
            rw [hq] at hdr
            have Hdr := Lib.hid hdr
            have Hqr := Lib.hid hqr
            have hrange := Lib.hid (itemsBytes_range ((itemsOf ns ks i).drop j))
            have hcell2 := hE.cell hcell
            clear hcells hq hdr hqr
            by_cases hk : j < ks.length
            · obtain ⟨bk, offk, capk, he', hcapk, hcapmk, hcellsk⟩ := RdB.pos (hks.out.ext hE) (by omega)
              injection he' with e1 e2 e3
              subst e1 e3
              unfold maxLen at hcapmk
              have hcellk := hcellsk j hk
              obtain ⟨kb, hkb⟩ : ∃ kb, ks.getD j false = kb := ⟨_, rfl⟩
              rw [hkb] at hcellk
              have Hkb := Lib.hid hkb
              clear hcellsk hkb
              cases kb with
              | true =>
                go_wp2_with fail
                have hrest := Lib.hid (show itemsBytes ((itemsOf ns ks i).drop j) = leBytes 1 q ++ itemsBytes ((itemsOf ns ks i).drop (j + 1)) by rw [Hdr.out, Hkb.out, itemsBytes_cons1])
                clear hcellk
                refine wp_region_chain mixed [1, 6]
                    [(· = .pointer (some ⟨g, 0, none⟩)),
                     (· = .int .i64 (q % 256)),
                     (· = .slice (some ⟨b, off, none⟩) ns.length cn),
                     (· = .int .i64 j),
                     (· = .pointer (some ⟨b, off + j, none⟩)),
                     (· = .int .i64 q),
                     (· = .int .i64 (q % 256)),
                     (· = .bool false)]
                    (w.heap.size) (fun k w' => match k with | 0 => RdS (fun _ => True) w' g (itemsBytes ((itemsOf ns ks i).drop j)) 0 | _ => RdS (fun _ => True) w' g (itemsBytes ((itemsOf ns ks i).drop (j + 1))) 0)
                    (by kernel_rfl) (by kernel_rfl) (by decide) ?start ?steps ?post
                case start => exact HR.out
                case steps =>
                  refine ⟨?_, ?_, ?_, ?_, ?_, ?_, ?_, ?_, trivial⟩
                  · refine chain_pure (by kernel_rfl) fun σ w hE hold hk => ?_
                    have h8 : σ 8 = .pointer (some ⟨g, 0, none⟩) := hold 8 (by kernel_rfl)
                    exact ⟨rfl, _, op_move rfl, h8⟩
                  · refine chain_turn (k := 0) (by kernel_rfl) fun σ w hE hold hk hT => ?_
                    have h59 : σ 59 = .pointer (some ⟨g, 0, none⟩) := hk.1
                    refine ⟨rfl, Does.call (op_call1 rfl Try.func17 (by kernel_rfl) (by kernel_rfl) h59) (RByte_calls g _ 0 _ hT hrange.out) ?_⟩
                    rintro e w' ⟨rfl, hR, hG⟩
                    rw [hrest.out, readF_front 1 _ _ (leBytes_length 1 q)] at hR ⊢
                    exact ⟨_, rfl, below_row hG (Nat.le_trans hE0.size hE.size) hwg, hR, by show Value.int .i64 (IntKind.i64.wrap (leVal (leBytes 1 q))) = .int .i64 (q % 256); rw [leBytes_one, leVal_one, IntKind.wrap_i64]; congr 1; omega⟩
                  · refine chain_pure (by kernel_rfl) fun σ w hE hold hk => ?_
                    have h0 : σ 0 = .slice (some ⟨b, off, none⟩) ns.length cn := hold 0 (by kernel_rfl)
                    exact ⟨rfl, _, op_move rfl, h0⟩
                  · refine chain_pure (by kernel_rfl) fun σ w hE hold hk => ?_
                    have h9 : σ 9 = .int .i64 j := hold 9 (by kernel_rfl)
                    exact ⟨rfl, _, op_move rfl, h9⟩
                  · refine chain_pure (by kernel_rfl) fun σ w hE hold hk => ?_
                    have h61 : σ 61 = .slice (some ⟨b, off, none⟩) ns.length cn := hk.1
                    have h62 : σ 62 = .int .i64 j := hk.2.1
                    have hjl : j < ns.length := by omega
                    exact ⟨rfl, .pointer (some ⟨b, off + j, none⟩), by go_simp, rfl⟩
                  · refine chain_pure (by kernel_rfl) fun σ w hE hold hk => ?_
                    have h63 : σ 63 = .pointer (some ⟨b, off + j, none⟩) := hk.1
                    have hcl := (Below.cell hE (p := ⟨b, off + j, none⟩) hbw).trans hcell2
                    exact ⟨rfl, .int .i64 q, by go_simp, rfl⟩
                  · refine chain_turn (k := 1) (by kernel_rfl) fun σ w hE hold hk hT => ?_
                    have h64 : σ 64 = .int .i64 q := hk.1
                    refine ⟨rfl, Does.call (op_call2 rfl Try.func15 (by kernel_rfl) (by kernel_rfl) h64 rfl) (within_calls q 256 _ (by decide) (by decide) Hqr.out) ?_⟩
                    rintro e w' ⟨rfl, rfl⟩
                    exact ⟨_, rfl, Below.refl _ _, hT, rfl⟩
                  · refine chain_pure (by kernel_rfl) fun σ w hE hold hk => ?_
                    have h60 : σ 60 = .int .i64 (q % 256) := hk.1
                    have h65 : σ 65 = .int .i64 (q % 256) := hk.2.1
                    exact ⟨rfl, .bool false, by go_simp, rfl⟩
                case post =>
                  intro σ w3 hE3 hT hL
                  have h66 : σ 66 = .bool false := hL.2.2.2.2.2.2.2.1
                  clear hL
                  simp only [putAll, List.map_cons, List.map_nil, List.zip_cons_cons, List.zip_nil_right, List.foldl_cons, List.foldl_nil, Act.put, Option.getD_some, List.setIfInBounds_toArray, List.set_cons_zero, List.set_cons_succ]
                  rw [h66]; clear h66
                  go_wp2_with fail
                  go_roundw
                  case rel => exact ⟨j + 1, by omega, by go_num, hT, Below.trans hE0 hE3⟩
                  case measure => simp [intOf]; omega
              | false =>
                go_wp2_with fail
                have hrest := Lib.hid (show itemsBytes ((itemsOf ns ks i).drop j) = leBytes 8 q ++ itemsBytes ((itemsOf ns ks i).drop (j + 1)) by rw [Hdr.out, Hkb.out, itemsBytes_cons8])
                clear hcellk
                refine wp_region_chain mixed [1]
                    [(· = .pointer (some ⟨g, 0, none⟩)),
                     (· = .int .i64 q),
                     (· = .slice (some ⟨b, off, none⟩) ns.length cn),
                     (· = .int .i64 j),
                     (· = .pointer (some ⟨b, off + j, none⟩)),
                     (· = .int .i64 q),
                     (· = .bool false)]
                    (w.heap.size) (fun k w' => match k with | 0 => RdS (fun _ => True) w' g (itemsBytes ((itemsOf ns ks i).drop j)) 0 | _ => RdS (fun _ => True) w' g (itemsBytes ((itemsOf ns ks i).drop (j + 1))) 0)
                    (by kernel_rfl) (by kernel_rfl) (by decide) ?start ?steps ?post
                case start => exact HR.out
                case steps =>
                  refine ⟨?_, ?_, ?_, ?_, ?_, ?_, ?_, trivial⟩
                  · refine chain_pure (by kernel_rfl) fun σ w hE hold hk => ?_
                    have h8 : σ 8 = .pointer (some ⟨g, 0, none⟩) := hold 8 (by kernel_rfl)
                    exact ⟨rfl, _, op_move rfl, h8⟩
                  · refine chain_turn (k := 0) (by kernel_rfl) fun σ w hE hold hk hT => ?_
                    have h67 : σ 67 = .pointer (some ⟨g, 0, none⟩) := hk.1
                    refine ⟨rfl, Does.call (op_call1 rfl Try.func18 (by kernel_rfl) (by kernel_rfl) h67) (RInt_calls g _ 0 _ hT hrange.out) ?_⟩
                    rintro e w' ⟨rfl, hR, hG⟩
                    rw [hrest.out, readF_front 8 _ _ (leBytes_length 8 q)] at hR ⊢
                    exact ⟨_, rfl, below_row hG (Nat.le_trans hE0.size hE.size) hwg, hR, by show Value.int .i64 (IntKind.i64.wrap (leVal (leBytes 8 q))) = .int .i64 q; rw [leVal_int q Hqr.out]⟩
                  · refine chain_pure (by kernel_rfl) fun σ w hE hold hk => ?_
                    have h0 : σ 0 = .slice (some ⟨b, off, none⟩) ns.length cn := hold 0 (by kernel_rfl)
                    exact ⟨rfl, _, op_move rfl, h0⟩
                  · refine chain_pure (by kernel_rfl) fun σ w hE hold hk => ?_
                    have h9 : σ 9 = .int .i64 j := hold 9 (by kernel_rfl)
                    exact ⟨rfl, _, op_move rfl, h9⟩
                  · refine chain_pure (by kernel_rfl) fun σ w hE hold hk => ?_
                    have h69 : σ 69 = .slice (some ⟨b, off, none⟩) ns.length cn := hk.1
                    have h70 : σ 70 = .int .i64 j := hk.2.1
                    have hjl : j < ns.length := by omega
                    exact ⟨rfl, .pointer (some ⟨b, off + j, none⟩), by go_simp, rfl⟩
                  · refine chain_pure (by kernel_rfl) fun σ w hE hold hk => ?_
                    have h71 : σ 71 = .pointer (some ⟨b, off + j, none⟩) := hk.1
                    have hcl := (Below.cell hE (p := ⟨b, off + j, none⟩) hbw).trans hcell2
                    exact ⟨rfl, .int .i64 q, by go_simp, rfl⟩
                  · refine chain_pure (by kernel_rfl) fun σ w hE hold hk => ?_
                    have h68 : σ 68 = .int .i64 q := hk.1
                    have h72 : σ 72 = .int .i64 q := hk.2.1
                    exact ⟨rfl, .bool false, by go_simp, rfl⟩
                case post =>
                  intro σ w3 hE3 hT hL
                  have h73 : σ 73 = .bool false := hL.2.2.2.2.2.2.1
                  clear hL
                  simp only [putAll, List.map_cons, List.map_nil, List.zip_cons_cons, List.zip_nil_right, List.foldl_cons, List.foldl_nil, Act.put, Option.getD_some, List.setIfInBounds_toArray, List.set_cons_zero, List.set_cons_succ]
                  rw [h73]; clear h73
                  go_wp2_with fail
                  go_roundw
                  case rel => exact ⟨j + 1, by omega, by go_num, hT, Below.trans hE0 hE3⟩
                  case measure => simp [intOf]; omega
            · have Hkb : Hid (ks.getD j false = false) := Lib.hid (by rw [List.getD_eq_getElem?_getD, List.getElem?_eq_none (by omega)]; rfl)
              go_wp2_with fail
              have hrest := Lib.hid (show itemsBytes ((itemsOf ns ks i).drop j) = leBytes 8 q ++ itemsBytes ((itemsOf ns ks i).drop (j + 1)) by rw [Hdr.out, Hkb.out, itemsBytes_cons8])
              refine wp_region_chain mixed [1]
                  [(· = .pointer (some ⟨g, 0, none⟩)),
                   (· = .int .i64 q),
                   (· = .slice (some ⟨b, off, none⟩) ns.length cn),
                   (· = .int .i64 j),
                   (· = .pointer (some ⟨b, off + j, none⟩)),
                   (· = .int .i64 q),
                   (· = .bool false)]
                  (w.heap.size) (fun k w' => match k with | 0 => RdS (fun _ => True) w' g (itemsBytes ((itemsOf ns ks i).drop j)) 0 | _ => RdS (fun _ => True) w' g (itemsBytes ((itemsOf ns ks i).drop (j + 1))) 0)
                  (by kernel_rfl) (by kernel_rfl) (by decide) ?start ?steps ?post
              case start => exact HR.out
              case steps =>
                refine ⟨?_, ?_, ?_, ?_, ?_, ?_, ?_, trivial⟩
                · refine chain_pure (by kernel_rfl) fun σ w hE hold hk => ?_
                  have h8 : σ 8 = .pointer (some ⟨g, 0, none⟩) := hold 8 (by kernel_rfl)
                  exact ⟨rfl, _, op_move rfl, h8⟩
                · refine chain_turn (k := 0) (by kernel_rfl) fun σ w hE hold hk hT => ?_
                  have h67 : σ 67 = .pointer (some ⟨g, 0, none⟩) := hk.1
                  refine ⟨rfl, Does.call (op_call1 rfl Try.func18 (by kernel_rfl) (by kernel_rfl) h67) (RInt_calls g _ 0 _ hT hrange.out) ?_⟩
                  rintro e w' ⟨rfl, hR, hG⟩
                  rw [hrest.out, readF_front 8 _ _ (leBytes_length 8 q)] at hR ⊢
                  exact ⟨_, rfl, below_row hG (Nat.le_trans hE0.size hE.size) hwg, hR, by show Value.int .i64 (IntKind.i64.wrap (leVal (leBytes 8 q))) = .int .i64 q; rw [leVal_int q Hqr.out]⟩
                · refine chain_pure (by kernel_rfl) fun σ w hE hold hk => ?_
                  have h0 : σ 0 = .slice (some ⟨b, off, none⟩) ns.length cn := hold 0 (by kernel_rfl)
                  exact ⟨rfl, _, op_move rfl, h0⟩
                · refine chain_pure (by kernel_rfl) fun σ w hE hold hk => ?_
                  have h9 : σ 9 = .int .i64 j := hold 9 (by kernel_rfl)
                  exact ⟨rfl, _, op_move rfl, h9⟩
                · refine chain_pure (by kernel_rfl) fun σ w hE hold hk => ?_
                  have h69 : σ 69 = .slice (some ⟨b, off, none⟩) ns.length cn := hk.1
                  have h70 : σ 70 = .int .i64 j := hk.2.1
                  have hjl : j < ns.length := by omega
                  exact ⟨rfl, .pointer (some ⟨b, off + j, none⟩), by go_simp, rfl⟩
                · refine chain_pure (by kernel_rfl) fun σ w hE hold hk => ?_
                  have h71 : σ 71 = .pointer (some ⟨b, off + j, none⟩) := hk.1
                  have hcl := (Below.cell hE (p := ⟨b, off + j, none⟩) hbw).trans hcell2
                  exact ⟨rfl, .int .i64 q, by go_simp, rfl⟩
                · refine chain_pure (by kernel_rfl) fun σ w hE hold hk => ?_
                  have h68 : σ 68 = .int .i64 q := hk.1
                  have h72 : σ 72 = .int .i64 q := hk.2.1
                  exact ⟨rfl, .bool false, by go_simp, rfl⟩
              case post =>
                intro σ w3 hE3 hT hL
                have h73 : σ 73 = .bool false := hL.2.2.2.2.2.2.1
                clear hL
                simp only [putAll, List.map_cons, List.map_nil, List.zip_cons_cons, List.zip_nil_right, List.foldl_cons, List.foldl_nil, Act.put, Option.getD_some, List.setIfInBounds_toArray, List.set_cons_zero, List.set_cons_succ]
                rw [h73]; clear h73
                go_wp2_with fail
                go_roundw
                case rel => exact ⟨j + 1, by omega, by go_num, hT, Below.trans hE0 hE3⟩
                case measure => simp [intOf]; omega
          · obtain rfl : j = i := by omega
            have hR := HR.out
            rw [List.drop_eq_nil_of_le (by rw [itemsOf_length]; exact Nat.le_refl _)] at hR
            have HR2 := Lib.hid hR
            clear hR
            go_wp2_with fail
            refine (REnd_calls g (itemsBytes []) 0 wr HR2.out).mono ?_
            rintro e w' ⟨rfl, rfl⟩
            have hend : endF (itemsBytes []) 0 = 0 := by rw [endF, if_neg (by simp [itemsBytes])]
            rw [hend]
            clear hend
            go_wp2_with fail
            go_ret
            exact ⟨rfl, hE0⟩
  · obtain ⟨n, hn⟩ : ∃ n : Nat, ns.length = n := ⟨_, rfl⟩
    have hnl : n ≤ ns.length := by omega
    have hn30 : n ≤ 30 := by omega
    have Hn := Lib.hid hn
    rw [hn]
    clear hn
    go_loopw [5, 7] (fun bv iv wr => ∃ i : Nat, i ≤ n ∧ iv = .int .i64 i ∧ Own wr w.heap.size 5 .u8 bv (itemsBytes ((itemsOf ns ks n).take i)) ∧ Ext w wr) (fun bv iv wr => n - (intOf iv).toNat)
    case atStart => exact ⟨0, Nat.zero_le _, rfl, own_nil _ _ _ _, hE1⟩
    case round =>
      obtain ⟨i, hi, rfl, hO, hE⟩ := hrel
      have HO := Lib.hid hO
      have hbl : (itemsBytes ((itemsOf ns ks n).take i)).length ≤ 240 := by
        have h1 := itemsBytes_length ((itemsOf ns ks n).take i)
        have h2 : ((itemsOf ns ks n).take i).length ≤ 30 := by rw [List.length_take]; omega
        omega
      have hE0 := hE
      by_cases hlt : i < n
      · obtain ⟨b, off, cap, he', hcap, hcapm, hcells⟩ := Rd.pos (hns.out.ext hE) (by omega)
        injection he' with e1 e2 e3
        subst e1 e3
        unfold maxLen at hcapm
        have hcell := hcells i (by omega)
        obtain ⟨q, hq⟩ : ∃ q, ns.getD i 0 = q := ⟨_, rfl⟩
        rw [hq] at hcell
        have htk := itemsOf_take ns ks n i hlt
        rw [hq] at htk
        have Htk := Lib.hid htk
        clear hcells hq htk hO
        by_cases hk : i < ks.length
        · obtain ⟨bk, offk, capk, he', hcapk, hcapmk, hcellsk⟩ := RdB.pos (hks.out.ext hE) (by omega)
          injection he' with e1 e2 e3
          subst e1 e3
          unfold maxLen at hcapmk
          have hcellk := hcellsk i hk
          obtain ⟨kb, hkb⟩ : ∃ kb, ks.getD i false = kb := ⟨_, rfl⟩
          rw [hkb] at hcellk
          have Hkb := Lib.hid hkb
          clear hcellsk hkb
          cases kb with
          | true =>
            go_wp2_with fail
            refine (Byte_calls _ _ q wr (by omega) (ownsRow.reads HO.out)).mono ?_
            rintro e w2 ⟨v2, rfl, hO2, hE2⟩
            have HO2 := Lib.hid hO2
            clear hO2
            go_wp2_with fail
            go_roundw
            case rel => exact ⟨i + 1, by omega, by go_num, by rw [Htk.out, Hkb.out, itemsBytes_snoc1]; exact ownsRow.base HO2.out hE0.size, hE0.trans hE2⟩
            case measure => simp [intOf]; omega
          | false =>
            go_wp2_with fail
            refine (Int_calls _ _ q wr (by omega) (ownsRow.reads HO.out)).mono ?_
            rintro e w2 ⟨v2, rfl, hO2, hE2⟩
            have HO2 := Lib.hid hO2
            clear hO2
            go_wp2_with fail
            go_roundw
            case rel => exact ⟨i + 1, by omega, by go_num, by rw [Htk.out, Hkb.out, itemsBytes_snoc8]; exact ownsRow.base HO2.out hE0.size, hE0.trans hE2⟩
            case measure => simp [intOf]; omega
        · have Hkb : Hid (ks.getD i false = false) := Lib.hid (by rw [List.getD_eq_getElem?_getD, List.getElem?_eq_none (by omega)]; rfl)
          go_wp2_with fail
          refine (Int_calls _ _ q wr (by omega) (ownsRow.reads HO.out)).mono ?_
          rintro e w2 ⟨v2, rfl, hO2, hE2⟩
          have HO2 := Lib.hid hO2
          clear hO2
          go_wp2_with fail
          go_roundw
          case rel => exact ⟨i + 1, by omega, by go_num, by rw [Htk.out, Hkb.out, itemsBytes_snoc8]; exact ownsRow.base HO2.out hE0.size, hE0.trans hE2⟩
          case measure => simp [intOf]; omega
      · obtain rfl : i = n := by omega
        have hall : (itemsOf ns ks i).take i = itemsOf ns ks i := List.take_of_length_le (by rw [itemsOf_length]; exact Nat.le_refl _)
        rw [hall] at HO hbl
        go_wp2_with fail
        refine (New_calls _ _ wr (by omega) (ownsRow.reads HO.out)).mono ?_
        rintro e w2 ⟨g, rfl, hR, hg, hgl, hE2⟩
        have HR := Lib.hid (hR.weaken (q := fun _ => True) (fun _ _ => trivial))
        have hE := hE0.trans hE2
        have hwg : w.heap.size ≤ g := Nat.le_trans hE0.size hg
        clear hR hO HO hE2 hE1 hall hg hgl hE0
        go_wp2_with fail
        go_loopw [9] (fun jv wr => ∃ j : Nat, j ≤ i ∧ jv = .int .i64 j ∧ RdS (fun _ => True) wr g (itemsBytes ((itemsOf ns ks i).drop j)) 0 ∧ Ext w wr) (fun jv wr => i - (intOf jv).toNat)
        case atStart => exact ⟨0, Nat.zero_le _, rfl, HR.out, hE⟩
        case round =>
          obtain ⟨j, hj, rfl, hR, hE⟩ := hrel
          have HR := Lib.hid hR
          have hE0 := hE
          clear hR
          by_cases hlt : j < i
          · obtain ⟨b, off, cap, he', hcap, hcapm, hcells⟩ := Rd.pos hns.out (by omega)
            injection he' with e1 e2 e3
            subst e1 e3
            unfold maxLen at hcapm
            have hcell := hcells j (by omega)
            have hqr := bounds_i64 (Hwf.out (ns.getD j 0) (by rw [List.getD_eq_getElem?_getD, List.getElem?_eq_getElem (by omega)]; exact List.getElem_mem _))
            have hbw : b < w.heap.size := World.block_lt_of_cell? w _ hcell
            obtain ⟨q, hq⟩ : ∃ q, ns.getD j 0 = q := ⟨_, rfl⟩
            rw [hq] at hcell hqr
            have hdr := itemsOf_drop ns ks i j hlt
            rw [hq] at hdr
            have Hdr := Lib.hid hdr
            have Hqr := Lib.hid hqr
            have hrange := Lib.hid (itemsBytes_range ((itemsOf ns ks i).drop j))
            have hcell2 := hE.cell hcell
            clear hcells hq hdr hqr
            by_cases hk : j < ks.length
            · obtain ⟨bk, offk, capk, he', hcapk, hcapmk, hcellsk⟩ := RdB.pos (hks.out.ext hE) (by omega)
              injection he' with e1 e2 e3
              subst e1 e3
              unfold maxLen at hcapmk
              have hcellk := hcellsk j hk
              obtain ⟨kb, hkb⟩ : ∃ kb, ks.getD j false = kb := ⟨_, rfl⟩
              rw [hkb] at hcellk
              have Hkb := Lib.hid hkb
              clear hcellsk hkb
              cases kb with
              | true =>
                go_wp2_with fail
                have hrest := Lib.hid (show itemsBytes ((itemsOf ns ks i).drop j) = leBytes 1 q ++ itemsBytes ((itemsOf ns ks i).drop (j + 1)) by rw [Hdr.out, Hkb.out, itemsBytes_cons1])
                clear hcellk
                refine wp_region_chain mixed [1, 6]
                    [(· = .pointer (some ⟨g, 0, none⟩)),
                     (· = .int .i64 (q % 256)),
                     (· = .slice (some ⟨b, off, none⟩) i cn),
                     (· = .int .i64 j),
                     (· = .pointer (some ⟨b, off + j, none⟩)),
                     (· = .int .i64 q),
                     (· = .int .i64 (q % 256)),
                     (· = .bool false)]
                    (w.heap.size) (fun k w' => match k with | 0 => RdS (fun _ => True) w' g (itemsBytes ((itemsOf ns ks i).drop j)) 0 | _ => RdS (fun _ => True) w' g (itemsBytes ((itemsOf ns ks i).drop (j + 1))) 0)
                    (by kernel_rfl) (by kernel_rfl) (by decide) ?start ?steps ?post
                case start => exact HR.out
                case steps =>
                  refine ⟨?_, ?_, ?_, ?_, ?_, ?_, ?_, ?_, trivial⟩
                  · refine chain_pure (by kernel_rfl) fun σ w hE hold hk => ?_
                    have h8 : σ 8 = .pointer (some ⟨g, 0, none⟩) := hold 8 (by kernel_rfl)
                    exact ⟨rfl, _, op_move rfl, h8⟩
                  · refine chain_turn (k := 0) (by kernel_rfl) fun σ w hE hold hk hT => ?_
                    have h59 : σ 59 = .pointer (some ⟨g, 0, none⟩) := hk.1
                    refine ⟨rfl, Does.call (op_call1 rfl Try.func17 (by kernel_rfl) (by kernel_rfl) h59) (RByte_calls g _ 0 _ hT hrange.out) ?_⟩
                    rintro e w' ⟨rfl, hR, hG⟩
                    rw [hrest.out, readF_front 1 _ _ (leBytes_length 1 q)] at hR ⊢
                    exact ⟨_, rfl, below_row hG (Nat.le_trans hE0.size hE.size) hwg, hR, by show Value.int .i64 (IntKind.i64.wrap (leVal (leBytes 1 q))) = .int .i64 (q % 256); rw [leBytes_one, leVal_one, IntKind.wrap_i64]; congr 1; omega⟩
                  · refine chain_pure (by kernel_rfl) fun σ w hE hold hk => ?_
                    have h0 : σ 0 = .slice (some ⟨b, off, none⟩) i cn := hold 0 (by kernel_rfl)
                    exact ⟨rfl, _, op_move rfl, h0⟩
                  · refine chain_pure (by kernel_rfl) fun σ w hE hold hk => ?_
                    have h9 : σ 9 = .int .i64 j := hold 9 (by kernel_rfl)
                    exact ⟨rfl, _, op_move rfl, h9⟩
                  · refine chain_pure (by kernel_rfl) fun σ w hE hold hk => ?_
                    have h61 : σ 61 = .slice (some ⟨b, off, none⟩) i cn := hk.1
                    have h62 : σ 62 = .int .i64 j := hk.2.1
                    have hjl : j < ns.length := by omega
                    exact ⟨rfl, .pointer (some ⟨b, off + j, none⟩), by go_simp, rfl⟩
                  · refine chain_pure (by kernel_rfl) fun σ w hE hold hk => ?_
                    have h63 : σ 63 = .pointer (some ⟨b, off + j, none⟩) := hk.1
                    have hcl := (Below.cell hE (p := ⟨b, off + j, none⟩) hbw).trans hcell2
                    exact ⟨rfl, .int .i64 q, by go_simp, rfl⟩
                  · refine chain_turn (k := 1) (by kernel_rfl) fun σ w hE hold hk hT => ?_
                    have h64 : σ 64 = .int .i64 q := hk.1
                    refine ⟨rfl, Does.call (op_call2 rfl Try.func15 (by kernel_rfl) (by kernel_rfl) h64 rfl) (within_calls q 256 _ (by decide) (by decide) Hqr.out) ?_⟩
                    rintro e w' ⟨rfl, rfl⟩
                    exact ⟨_, rfl, Below.refl _ _, hT, rfl⟩
                  · refine chain_pure (by kernel_rfl) fun σ w hE hold hk => ?_
                    have h60 : σ 60 = .int .i64 (q % 256) := hk.1
                    have h65 : σ 65 = .int .i64 (q % 256) := hk.2.1
                    exact ⟨rfl, .bool false, by go_simp, rfl⟩
                case post =>
                  intro σ w3 hE3 hT hL
                  have h66 : σ 66 = .bool false := hL.2.2.2.2.2.2.2.1
                  clear hL
                  simp only [putAll, List.map_cons, List.map_nil, List.zip_cons_cons, List.zip_nil_right, List.foldl_cons, List.foldl_nil, Act.put, Option.getD_some, List.setIfInBounds_toArray, List.set_cons_zero, List.set_cons_succ]
                  rw [h66]; clear h66
                  go_wp2_with fail
                  go_roundw
                  case rel => exact ⟨j + 1, by omega, by go_num, hT, Below.trans hE0 hE3⟩
                  case measure => simp [intOf]; omega
              | false =>
                go_wp2_with fail
                have hrest := Lib.hid (show itemsBytes ((itemsOf ns ks i).drop j) = leBytes 8 q ++ itemsBytes ((itemsOf ns ks i).drop (j + 1)) by rw [Hdr.out, Hkb.out, itemsBytes_cons8])
                clear hcellk
                refine wp_region_chain mixed [1]
                    [(· = .pointer (some ⟨g, 0, none⟩)),
                     (· = .int .i64 q),
                     (· = .slice (some ⟨b, off, none⟩) i cn),
                     (· = .int .i64 j),
                     (· = .pointer (some ⟨b, off + j, none⟩)),
                     (· = .int .i64 q),
                     (· = .bool false)]
                    (w.heap.size) (fun k w' => match k with | 0 => RdS (fun _ => True) w' g (itemsBytes ((itemsOf ns ks i).drop j)) 0 | _ => RdS (fun _ => True) w' g (itemsBytes ((itemsOf ns ks i).drop (j + 1))) 0)
                    (by kernel_rfl) (by kernel_rfl) (by decide) ?start ?steps ?post
                case start => exact HR.out
                case steps =>
                  refine ⟨?_, ?_, ?_, ?_, ?_, ?_, ?_, trivial⟩
                  · refine chain_pure (by kernel_rfl) fun σ w hE hold hk => ?_
                    have h8 : σ 8 = .pointer (some ⟨g, 0, none⟩) := hold 8 (by kernel_rfl)
                    exact ⟨rfl, _, op_move rfl, h8⟩
                  · refine chain_turn (k := 0) (by kernel_rfl) fun σ w hE hold hk hT => ?_
                    have h67 : σ 67 = .pointer (some ⟨g, 0, none⟩) := hk.1
                    refine ⟨rfl, Does.call (op_call1 rfl Try.func18 (by kernel_rfl) (by kernel_rfl) h67) (RInt_calls g _ 0 _ hT hrange.out) ?_⟩
                    rintro e w' ⟨rfl, hR, hG⟩
                    rw [hrest.out, readF_front 8 _ _ (leBytes_length 8 q)] at hR ⊢
                    exact ⟨_, rfl, below_row hG (Nat.le_trans hE0.size hE.size) hwg, hR, by show Value.int .i64 (IntKind.i64.wrap (leVal (leBytes 8 q))) = .int .i64 q; rw [leVal_int q Hqr.out]⟩
                  · refine chain_pure (by kernel_rfl) fun σ w hE hold hk => ?_
                    have h0 : σ 0 = .slice (some ⟨b, off, none⟩) i cn := hold 0 (by kernel_rfl)
                    exact ⟨rfl, _, op_move rfl, h0⟩
                  · refine chain_pure (by kernel_rfl) fun σ w hE hold hk => ?_
                    have h9 : σ 9 = .int .i64 j := hold 9 (by kernel_rfl)
                    exact ⟨rfl, _, op_move rfl, h9⟩
                  · refine chain_pure (by kernel_rfl) fun σ w hE hold hk => ?_
                    have h69 : σ 69 = .slice (some ⟨b, off, none⟩) i cn := hk.1
                    have h70 : σ 70 = .int .i64 j := hk.2.1
                    have hjl : j < ns.length := by omega
                    exact ⟨rfl, .pointer (some ⟨b, off + j, none⟩), by go_simp, rfl⟩
                  · refine chain_pure (by kernel_rfl) fun σ w hE hold hk => ?_
                    have h71 : σ 71 = .pointer (some ⟨b, off + j, none⟩) := hk.1
                    have hcl := (Below.cell hE (p := ⟨b, off + j, none⟩) hbw).trans hcell2
                    exact ⟨rfl, .int .i64 q, by go_simp, rfl⟩
                  · refine chain_pure (by kernel_rfl) fun σ w hE hold hk => ?_
                    have h68 : σ 68 = .int .i64 q := hk.1
                    have h72 : σ 72 = .int .i64 q := hk.2.1
                    exact ⟨rfl, .bool false, by go_simp, rfl⟩
                case post =>
                  intro σ w3 hE3 hT hL
                  have h73 : σ 73 = .bool false := hL.2.2.2.2.2.2.1
                  clear hL
                  simp only [putAll, List.map_cons, List.map_nil, List.zip_cons_cons, List.zip_nil_right, List.foldl_cons, List.foldl_nil, Act.put, Option.getD_some, List.setIfInBounds_toArray, List.set_cons_zero, List.set_cons_succ]
                  rw [h73]; clear h73
                  go_wp2_with fail
                  go_roundw
                  case rel => exact ⟨j + 1, by omega, by go_num, hT, Below.trans hE0 hE3⟩
                  case measure => simp [intOf]; omega
            · have Hkb : Hid (ks.getD j false = false) := Lib.hid (by rw [List.getD_eq_getElem?_getD, List.getElem?_eq_none (by omega)]; rfl)
              go_wp2_with fail
              have hrest := Lib.hid (show itemsBytes ((itemsOf ns ks i).drop j) = leBytes 8 q ++ itemsBytes ((itemsOf ns ks i).drop (j + 1)) by rw [Hdr.out, Hkb.out, itemsBytes_cons8])
              refine wp_region_chain mixed [1]
                  [(· = .pointer (some ⟨g, 0, none⟩)),
                   (· = .int .i64 q),
                   (· = .slice (some ⟨b, off, none⟩) i cn),
                   (· = .int .i64 j),
                   (· = .pointer (some ⟨b, off + j, none⟩)),
                   (· = .int .i64 q),
                   (· = .bool false)]
                  (w.heap.size) (fun k w' => match k with | 0 => RdS (fun _ => True) w' g (itemsBytes ((itemsOf ns ks i).drop j)) 0 | _ => RdS (fun _ => True) w' g (itemsBytes ((itemsOf ns ks i).drop (j + 1))) 0)
                  (by kernel_rfl) (by kernel_rfl) (by decide) ?start ?steps ?post
              case start => exact HR.out
              case steps =>
                refine ⟨?_, ?_, ?_, ?_, ?_, ?_, ?_, trivial⟩
                · refine chain_pure (by kernel_rfl) fun σ w hE hold hk => ?_
                  have h8 : σ 8 = .pointer (some ⟨g, 0, none⟩) := hold 8 (by kernel_rfl)
                  exact ⟨rfl, _, op_move rfl, h8⟩
                · refine chain_turn (k := 0) (by kernel_rfl) fun σ w hE hold hk hT => ?_
                  have h67 : σ 67 = .pointer (some ⟨g, 0, none⟩) := hk.1
                  refine ⟨rfl, Does.call (op_call1 rfl Try.func18 (by kernel_rfl) (by kernel_rfl) h67) (RInt_calls g _ 0 _ hT hrange.out) ?_⟩
                  rintro e w' ⟨rfl, hR, hG⟩
                  rw [hrest.out, readF_front 8 _ _ (leBytes_length 8 q)] at hR ⊢
                  exact ⟨_, rfl, below_row hG (Nat.le_trans hE0.size hE.size) hwg, hR, by show Value.int .i64 (IntKind.i64.wrap (leVal (leBytes 8 q))) = .int .i64 q; rw [leVal_int q Hqr.out]⟩
                · refine chain_pure (by kernel_rfl) fun σ w hE hold hk => ?_
                  have h0 : σ 0 = .slice (some ⟨b, off, none⟩) i cn := hold 0 (by kernel_rfl)
                  exact ⟨rfl, _, op_move rfl, h0⟩
                · refine chain_pure (by kernel_rfl) fun σ w hE hold hk => ?_
                  have h9 : σ 9 = .int .i64 j := hold 9 (by kernel_rfl)
                  exact ⟨rfl, _, op_move rfl, h9⟩
                · refine chain_pure (by kernel_rfl) fun σ w hE hold hk => ?_
                  have h69 : σ 69 = .slice (some ⟨b, off, none⟩) i cn := hk.1
                  have h70 : σ 70 = .int .i64 j := hk.2.1
                  have hjl : j < ns.length := by omega
                  exact ⟨rfl, .pointer (some ⟨b, off + j, none⟩), by go_simp, rfl⟩
                · refine chain_pure (by kernel_rfl) fun σ w hE hold hk => ?_
                  have h71 : σ 71 = .pointer (some ⟨b, off + j, none⟩) := hk.1
                  have hcl := (Below.cell hE (p := ⟨b, off + j, none⟩) hbw).trans hcell2
                  exact ⟨rfl, .int .i64 q, by go_simp, rfl⟩
                · refine chain_pure (by kernel_rfl) fun σ w hE hold hk => ?_
                  have h68 : σ 68 = .int .i64 q := hk.1
                  have h72 : σ 72 = .int .i64 q := hk.2.1
                  exact ⟨rfl, .bool false, by go_simp, rfl⟩
              case post =>
                intro σ w3 hE3 hT hL
                have h73 : σ 73 = .bool false := hL.2.2.2.2.2.2.1
                clear hL
                simp only [putAll, List.map_cons, List.map_nil, List.zip_cons_cons, List.zip_nil_right, List.foldl_cons, List.foldl_nil, Act.put, Option.getD_some, List.setIfInBounds_toArray, List.set_cons_zero, List.set_cons_succ]
                rw [h73]; clear h73
                go_wp2_with fail
                go_roundw
                case rel => exact ⟨j + 1, by omega, by go_num, hT, Below.trans hE0 hE3⟩
                case measure => simp [intOf]; omega
          · obtain rfl : j = i := by omega
            have hR := HR.out
            rw [List.drop_eq_nil_of_le (by rw [itemsOf_length]; exact Nat.le_refl _)] at hR
            have HR2 := Lib.hid hR
            clear hR
            go_wp2_with fail
            refine (REnd_calls g (itemsBytes []) 0 wr HR2.out).mono ?_
            rintro e w' ⟨rfl, rfl⟩
            have hend : endF (itemsBytes []) 0 = 0 := by rw [endF, if_neg (by simp [itemsBytes])]
            rw [hend]
            clear hend
            go_wp2_with fail
            go_ret
            exact ⟨rfl, hE0⟩
end Go.Proofs.Ytjonbihhalnleaa
