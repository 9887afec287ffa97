/-
  Slots and heads that come in, opened.
-/
import Derived.Test.YtmbjebdkhcpclaaEC
import Derived.ProofKit
import Derived.OpenShut
set_option linter.unusedSimpArgs false
set_option linter.unusedVariables false
namespace Go.Proofs.Ytmbjebdkhcpclaa
open Go.ChangeShapes Go.WideShapes Go.ChangeAt Go.RowKit

theorem cells_int : Try.prog.cellsOf 3 = 1 := by kernel_rfl
theorem cells_u8 : Try.prog.cellsOf 5 = 1 := by kernel_rfl
theorem cells_data : Try.prog.cellsOf 22 = 16 := by kernel_rfl
theorem cells_entry : Try.prog.cellsOf 24 = 19 := by kernel_rfl
theorem cells_head : Try.prog.cellsOf 30 = 4 := by kernel_rfl
theorem wf_u8 {q : Int} (h : (Lit.int .u8 q).wf = true) : 0 ≤ q ∧ q < 256 := by
  have := bounds_u8 h; omega
section
variable {H : Type} {enc : TypeId × Value → H} {w : World} {base : Nat} {spare : Nat → Bool} {held : Bool}
theorem open_head {r : Reach} {b0 : Nat} {v : Value} {dd : DataW H} {p : List MemPlace} (hv : Value.okWide Try.prog w r b0 30 v) (h : DataW.Trod enc Try.prog w base spare held 30 v dd p) :
    ∃ x y z u : Int, v = headVal x y z u ∧ (Lit.int .i64 x).wf = true ∧ (Lit.int .i64 y).wf = true ∧ (Lit.int .i64 z).wf = true ∧ (Lit.int .i64 u).wf = true := by
  obtain ⟨cs, rfl, hsz⟩ := okWide_struct Try.underlying30 hv
  rw [cells_head] at hsz
  obtain ⟨l⟩ := cs
  obtain ⟨fuel, hf⟩ := h
  obtain ⟨xs, n, _, hx, _, hlen, hg⟩ := DataW.trod_struct Try.underlying30 hf
  have hsz : l.length = 4 := hsz
  match l, hsz, hg with
  | [c0, c1, c2, c3], _, hg =>
    have g0 : DataW.trod enc Try.prog w base spare held n 3 (([c0, c1, c2, c3].drop 0).take (Try.prog.cellsOf 3)) = xs[0]? := hg 0 _ rfl
    rw [cells_int, List.getElem?_eq_getElem (show 0 < xs.length by rw [hlen]; decide)] at g0
    obtain ⟨x, e0, _, w0⟩ := DataW.trod_int Try.underlying3 g0
    have e0 : c0 = .int .i64 x := by simpa using e0
    subst e0
    have g1 : DataW.trod enc Try.prog w base spare held n 3 (([.int .i64 x, c1, c2, c3].drop 1).take (Try.prog.cellsOf 3)) = xs[1]? := hg 1 _ rfl
    rw [cells_int, List.getElem?_eq_getElem (show 1 < xs.length by rw [hlen]; decide)] at g1
    obtain ⟨y, e1, _, w1⟩ := DataW.trod_int Try.underlying3 g1
    have e1 : c1 = .int .i64 y := by simpa using e1
    subst e1
    have g2 : DataW.trod enc Try.prog w base spare held n 3 (([.int .i64 x, .int .i64 y, c2, c3].drop 2).take (Try.prog.cellsOf 3)) = xs[2]? := hg 2 _ rfl
    rw [cells_int, List.getElem?_eq_getElem (show 2 < xs.length by rw [hlen]; decide)] at g2
    obtain ⟨z, e2, _, w2⟩ := DataW.trod_int Try.underlying3 g2
    have e2 : c2 = .int .i64 z := by simpa using e2
    subst e2
    have g3 : DataW.trod enc Try.prog w base spare held n 3 (([.int .i64 x, .int .i64 y, .int .i64 z, c3].drop 3).take (Try.prog.cellsOf 3)) = xs[3]? := hg 3 _ rfl
    rw [cells_int, List.getElem?_eq_getElem (show 3 < xs.length by rw [hlen]; decide)] at g3
    obtain ⟨u, e3, _, w3⟩ := DataW.trod_int Try.underlying3 g3
    have e3 : c3 = .int .i64 u := by simpa using e3
    subst e3
    exact ⟨x, y, z, u, rfl, w0, w1, w2, w3⟩
theorem open_entry {r : Reach} {b0 : Nat} {v : Value} {dd : DataW H} {p : List MemPlace} (hv : Value.okWide Try.prog w r b0 24 v) (h : DataW.Trod enc Try.prog w base spare held 24 v dd p) :
    ∃ (k l s : Int) (d : Nat → Int), v = slotVal k l s d ∧ (Lit.int .i64 k).wf = true ∧ (Lit.int .i64 l).wf = true ∧ (Lit.int .i64 s).wf = true ∧ ∀ j, j < 16 → 0 ≤ d j ∧ d j < 256 := by
  obtain ⟨cs, rfl, hsz⟩ := okWide_struct Try.underlying24 hv
  rw [cells_entry] at hsz
  obtain ⟨l⟩ := cs
  obtain ⟨fuel, hf⟩ := h
  obtain ⟨xs, n, _, hx, _, hlen, hg⟩ := DataW.trod_struct Try.underlying24 hf
  have hsz : l.length = 19 := hsz
  match l, hsz, hg with
  | [c0, c1, c2, c3, c4, c5, c6, c7, c8, c9, c10, c11, c12, c13, c14, c15, c16, c17, c18], _, hg =>
    have g0 : DataW.trod enc Try.prog w base spare held n 3 (([c0, c1, c2, c3, c4, c5, c6, c7, c8, c9, c10, c11, c12, c13, c14, c15, c16, c17, c18].drop 0).take (Try.prog.cellsOf 3)) = xs[0]? := hg 0 _ rfl
    rw [cells_int, List.getElem?_eq_getElem (show 0 < xs.length by rw [hlen]; decide)] at g0
    obtain ⟨k, e0, _, w0⟩ := DataW.trod_int Try.underlying3 g0
    have e0 : c0 = .int .i64 k := by simpa using e0
    subst e0
    have g1 : DataW.trod enc Try.prog w base spare held n 3 (([.int .i64 k, c1, c2, c3, c4, c5, c6, c7, c8, c9, c10, c11, c12, c13, c14, c15, c16, c17, c18].drop 1).take (Try.prog.cellsOf 3)) = xs[1]? := hg 1 _ rfl
    rw [cells_int, List.getElem?_eq_getElem (show 1 < xs.length by rw [hlen]; decide)] at g1
    obtain ⟨l, e1, _, w1⟩ := DataW.trod_int Try.underlying3 g1
    have e1 : c1 = .int .i64 l := by simpa using e1
    subst e1
    have g2 : DataW.trod enc Try.prog w base spare held n 3 (([.int .i64 k, .int .i64 l, c2, c3, c4, c5, c6, c7, c8, c9, c10, c11, c12, c13, c14, c15, c16, c17, c18].drop 2).take (Try.prog.cellsOf 3)) = xs[2]? := hg 2 _ rfl
    rw [cells_int, List.getElem?_eq_getElem (show 2 < xs.length by rw [hlen]; decide)] at g2
    obtain ⟨s, e2, _, w2⟩ := DataW.trod_int Try.underlying3 g2
    have e2 : c2 = .int .i64 s := by simpa using e2
    subst e2
    have g3 : DataW.trod enc Try.prog w base spare held n 22 (([.int .i64 k, .int .i64 l, .int .i64 s, c3, c4, c5, c6, c7, c8, c9, c10, c11, c12, c13, c14, c15, c16, c17, c18].drop 3).take (Try.prog.cellsOf 22)) = xs[3]? := hg 3 _ rfl
    rw [cells_data, List.getElem?_eq_getElem (show 3 < xs.length by rw [hlen]; decide)] at g3
    obtain ⟨ys, m, _, _, _, hyl, hy⟩ := DataW.trod_array Try.underlying22 g3
    rw [cells_u8] at hy
    have f0 := hy 0 (by decide)
    rw [List.getElem?_eq_getElem (show 0 < ys.length by rw [hyl]; decide)] at f0
    obtain ⟨d0, q0, _, u0⟩ := DataW.trod_int Try.underlying5 f0
    have r0 : c3 = .int .u8 d0 := by simpa using q0
    clear f0 q0
    have f1 := hy 1 (by decide)
    rw [List.getElem?_eq_getElem (show 1 < ys.length by rw [hyl]; decide)] at f1
    obtain ⟨d1, q1, _, u1⟩ := DataW.trod_int Try.underlying5 f1
    have r1 : c4 = .int .u8 d1 := by simpa using q1
    clear f1 q1
    have f2 := hy 2 (by decide)
    rw [List.getElem?_eq_getElem (show 2 < ys.length by rw [hyl]; decide)] at f2
    obtain ⟨d2, q2, _, u2⟩ := DataW.trod_int Try.underlying5 f2
    have r2 : c5 = .int .u8 d2 := by simpa using q2
    clear f2 q2
    have f3 := hy 3 (by decide)
    rw [List.getElem?_eq_getElem (show 3 < ys.length by rw [hyl]; decide)] at f3
    obtain ⟨d3, q3, _, u3⟩ := DataW.trod_int Try.underlying5 f3
    have r3 : c6 = .int .u8 d3 := by simpa using q3
    clear f3 q3
    have f4 := hy 4 (by decide)
    rw [List.getElem?_eq_getElem (show 4 < ys.length by rw [hyl]; decide)] at f4
    obtain ⟨d4, q4, _, u4⟩ := DataW.trod_int Try.underlying5 f4
    have r4 : c7 = .int .u8 d4 := by simpa using q4
    clear f4 q4
    have f5 := hy 5 (by decide)
    rw [List.getElem?_eq_getElem (show 5 < ys.length by rw [hyl]; decide)] at f5
    obtain ⟨d5, q5, _, u5⟩ := DataW.trod_int Try.underlying5 f5
    have r5 : c8 = .int .u8 d5 := by simpa using q5
    clear f5 q5
    have f6 := hy 6 (by decide)
    rw [List.getElem?_eq_getElem (show 6 < ys.length by rw [hyl]; decide)] at f6
    obtain ⟨d6, q6, _, u6⟩ := DataW.trod_int Try.underlying5 f6
    have r6 : c9 = .int .u8 d6 := by simpa using q6
    clear f6 q6
    have f7 := hy 7 (by decide)
    rw [List.getElem?_eq_getElem (show 7 < ys.length by rw [hyl]; decide)] at f7
    obtain ⟨d7, q7, _, u7⟩ := DataW.trod_int Try.underlying5 f7
    have r7 : c10 = .int .u8 d7 := by simpa using q7
    clear f7 q7
    have f8 := hy 8 (by decide)
    rw [List.getElem?_eq_getElem (show 8 < ys.length by rw [hyl]; decide)] at f8
    obtain ⟨d8, q8, _, u8⟩ := DataW.trod_int Try.underlying5 f8
    have r8 : c11 = .int .u8 d8 := by simpa using q8
    clear f8 q8
    have f9 := hy 9 (by decide)
    rw [List.getElem?_eq_getElem (show 9 < ys.length by rw [hyl]; decide)] at f9
    obtain ⟨d9, q9, _, u9⟩ := DataW.trod_int Try.underlying5 f9
    have r9 : c12 = .int .u8 d9 := by simpa using q9
    clear f9 q9
    have f10 := hy 10 (by decide)
    rw [List.getElem?_eq_getElem (show 10 < ys.length by rw [hyl]; decide)] at f10
    obtain ⟨d10, q10, _, u10⟩ := DataW.trod_int Try.underlying5 f10
    have r10 : c13 = .int .u8 d10 := by simpa using q10
    clear f10 q10
    have f11 := hy 11 (by decide)
    rw [List.getElem?_eq_getElem (show 11 < ys.length by rw [hyl]; decide)] at f11
    obtain ⟨d11, q11, _, u11⟩ := DataW.trod_int Try.underlying5 f11
    have r11 : c14 = .int .u8 d11 := by simpa using q11
    clear f11 q11
    have f12 := hy 12 (by decide)
    rw [List.getElem?_eq_getElem (show 12 < ys.length by rw [hyl]; decide)] at f12
    obtain ⟨d12, q12, _, u12⟩ := DataW.trod_int Try.underlying5 f12
    have r12 : c15 = .int .u8 d12 := by simpa using q12
    clear f12 q12
    have f13 := hy 13 (by decide)
    rw [List.getElem?_eq_getElem (show 13 < ys.length by rw [hyl]; decide)] at f13
    obtain ⟨d13, q13, _, u13⟩ := DataW.trod_int Try.underlying5 f13
    have r13 : c16 = .int .u8 d13 := by simpa using q13
    clear f13 q13
    have f14 := hy 14 (by decide)
    rw [List.getElem?_eq_getElem (show 14 < ys.length by rw [hyl]; decide)] at f14
    obtain ⟨d14, q14, _, u14⟩ := DataW.trod_int Try.underlying5 f14
    have r14 : c17 = .int .u8 d14 := by simpa using q14
    clear f14 q14
    have f15 := hy 15 (by decide)
    rw [List.getElem?_eq_getElem (show 15 < ys.length by rw [hyl]; decide)] at f15
    obtain ⟨d15, q15, _, u15⟩ := DataW.trod_int Try.underlying5 f15
    have r15 : c18 = .int .u8 d15 := by simpa using q15
    clear f15 q15
    subst r0 r1 r2 r3 r4 r5 r6 r7 r8 r9 r10 r11 r12 r13 r14 r15
    refine ⟨k, l, s, fun j => [d0, d1, d2, d3, d4, d5, d6, d7, d8, d9, d10, d11, d12, d13, d14, d15].getD j 0, rfl, w0, w1, w2, fun j hj => ?_⟩
    have hj' : j = 0 ∨ j = 1 ∨ j = 2 ∨ j = 3 ∨ j = 4 ∨ j = 5 ∨ j = 6 ∨ j = 7 ∨ j = 8 ∨ j = 9 ∨ j = 10 ∨ j = 11 ∨ j = 12 ∨ j = 13 ∨ j = 14 ∨ j = 15 := by omega
    rcases hj' with rfl | rfl | rfl | rfl | rfl | rfl | rfl | rfl | rfl | rfl | rfl | rfl | rfl | rfl | rfl | rfl
    · exact wf_u8 u0
    · exact wf_u8 u1
    · exact wf_u8 u2
    · exact wf_u8 u3
    · exact wf_u8 u4
    · exact wf_u8 u5
    · exact wf_u8 u6
    · exact wf_u8 u7
    · exact wf_u8 u8
    · exact wf_u8 u9
    · exact wf_u8 u10
    · exact wf_u8 u11
    · exact wf_u8 u12
    · exact wf_u8 u13
    · exact wf_u8 u14
    · exact wf_u8 u15
end
end Go.Proofs.Ytmbjebdkhcpclaa
