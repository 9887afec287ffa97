/-
  The chain rule whose state speaks of all the values that were turned. Printed by mk_Ru.py.
-/
import Derived.Test.YtmbjebdkhcpclaaRv
set_option linter.unusedSimpArgs false
set_option linter.unusedVariables false
namespace Go.Proofs.Ytmbjebdkhcpclaa
open Go.RowKit

/-- The values that the turning operations gave. -/
def valsAt (ops : List Oper) (ms : List Nat) (σ : Nat → Value) : Nat → Value := fun j => match ms[j]? with | some m => σ (dstOf ops m) | none => undef

/-- What a step owes: an operation that turns nothing; the k-th of those that turn the state. -/
def SChainStep (P : Program) (ops : List Oper) (ms : List Nat) (fs : List (Value → Prop)) (B : Nat) (T : Nat → (Nat → Value) → World → Prop) (a0 : Act) (w0 : World) (i : Nat) (o : Oper) : Prop :=
  match ms.idxOf? i with
  | none => ∀ (σ : Nat → Value) (w : World), Below B w0 w → Hold ops a0 σ → Late ops a0 σ i → Known ops (pureAt fs) σ w o.after.toList →
      match wantedBy ops σ o with
      | true => ∃ v, (execOp (slotEval σ) o).run P w = .ok (.value v) w ∧ pureAt fs i v w
      | false => pureAt fs i undef w
  | some k => ∀ (σ : Nat → Value) (w : World), Below B w0 w → Hold ops a0 σ → Late ops a0 σ i → Known ops (pureAt fs) σ w o.after.toList → T k (valsAt ops ms σ) w →
      match wantedBy ops σ o with
      | true => Does P (slotEval σ) o w fun v w' => Below B w w' ∧ T (k + 1) (upd (valsAt ops ms σ) k v) w' ∧ pureAt fs i v w'
      | false => T (k + 1) (upd (valsAt ops ms σ) k undef) w ∧ pureAt fs i undef w

def SChainSteps (P : Program) (ops : List Oper) (ms : List Nat) (fs : List (Value → Prop)) (B : Nat) (T : Nat → (Nat → Value) → World → Prop) (a0 : Act) (w0 : World) : Nat → List Oper → Prop
  | _, [] => True
  | i, o :: rest => SChainStep P ops ms fs B T a0 w0 i o ∧ SChainSteps P ops ms fs B T a0 w0 (i + 1) rest

theorem SChainSteps.at {P : Program} {ops : List Oper} {ms : List Nat} {fs : List (Value → Prop)} {B : Nat} {T : Nat → (Nat → Value) → World → Prop} {a0 : Act} {w0 : World} :
    ∀ (l : List Oper) (k : Nat), SChainSteps P ops ms fs B T a0 w0 k l → ∀ i o, l[i]? = some o → SChainStep P ops ms fs B T a0 w0 (k + i) o
  | [], _, _, i, o, h => by simp at h
  | x :: rest, k, hs, i, o, h => by
    cases i with
    | zero => simp at h; subst h; exact hs.1
    | succ i =>
      have := SChainSteps.at rest (k + 1) hs.2 i o (by simpa using h)
      rwa [Nat.add_assoc, Nat.add_comm 1 i] at this

section
variable {P : Program} {ops : List Oper} {a0 : Act} {w0 : World} {Q : Exit → Act → World → Prop}

structure SChainInv (ops : List Oper) (ms : List Nat) (fs : List (Value → Prop)) (B : Nat) (T : Nat → (Nat → Value) → World → Prop) (a0 : Act) (w0 : World) (L : Nat → Bool) (σ : Nat → Value) (w : World) : Prop where
  below : Below B w0 w
  closed : ∀ i o, ops[i]? = some o → L i = true → ∀ e ∈ o.after.toList, Region.binds .any e = true → L e.on = true
  pre : ∀ i, i < ops.length → L i = false → σ (dstOf ops i) = a0.tmps.getD (dstOf ops i) undef
  facts : ∀ j, j < ops.length → L j = true → pureAt fs j (σ (dstOf ops j)) w
  state : ∃ k : Nat, k ≤ ms.length ∧ (∀ (j m : Nat), ms[j]? = some m → (L m = true ↔ j < k)) ∧ T k (valsAt ops ms σ) w

theorem wp_region_schain {id : Nat} (hm : P.follows .mixedOrders = true) (ms : List Nat) (fs : List (Value → Prop)) (B : Nat) (T : Nat → (Nat → Value) → World → Prop)
    (hok : factsOk ops a0.tmps.size = true) (hch : chainOk ops ms = true) (hnd : ms.Nodup) (hT : ∀ vs, T 0 vs w0.drew) (hstep : SChainSteps P ops ms fs B T a0 w0 0 ops)
    (hpost : ∀ (σ : Nat → Value) (w : World), Below B w0 w → T ms.length (valsAt ops ms σ) w → PureFacts fs σ 0 ops → Q .normal (putAll ops (ops.map fun o => σ ((o.dst).getD 0)) a0) w) :
    (Code.region id ops.toArray true).wp P Q a0 w0 := by
  refine wp_region_inv hm (SChainInv ops ms fs B T a0 w0) hok ?_ ⟨(Below.refl _ _).drew, fun i o _ h => (by cases h), fun _ _ _ => rfl, fun j _ h => (by cases h), 0, Nat.zero_le _, fun j m _ => ⟨fun h => (by cases h), fun h => absurd h (Nat.not_lt_zero _)⟩, hT _⟩ ?_
  · intro i o ho L σ w hLi hedges hold hI
    have hi : i < ops.length := (List.getElem?_eq_some_iff.1 ho).1
    have hs := SChainSteps.at ops 0 hstep i o ho
    rw [Nat.zero_add] at hs
    have hk : Known ops (pureAt fs) σ w o.after.toList := Known.of_all _ fun e he hb => by
      have := (factsOk_spec hok i o ho).1 e he hb
      exact hI.facts _ (by omega) (hedges e he hb)
    have dne : ∀ j, j < ops.length → j ≠ i → dstOf ops j ≠ dstOf ops i := by
      intro j hj hij e
      have hoj : ops[j]? = some ops[j] := List.getElem?_eq_getElem hj
      obtain ⟨_, ⟨di, hdi, _⟩, _⟩ := factsOk_spec hok i _ ho
      obtain ⟨_, ⟨dj, hdj, _⟩, _⟩ := factsOk_spec hok j _ hoj
      have e' : dj = di := by simpa [dstOf, hoj, ho, hdi, hdj] using e
      exact hij (factsOk_inj hok hoj ho (by rw [hdi, hdj, e']))
    have facts : ∀ v w', pureAt fs i v w' → ∀ j, j < ops.length → upd L i true j = true → pureAt fs j (upd σ (dstOf ops i) v (dstOf ops j)) w' := by
      intro v w' hv j hj hL
      by_cases hij : j = i
      · subst hij; simp only [upd, if_true]; exact hv
      · simp only [upd, if_neg hij] at hL
        simp only [upd, if_neg (dne j hj hij)]
        exact hI.facts j hj hL
    have closedU : ∀ j oj, ops[j]? = some oj → upd L i true j = true → ∀ e ∈ oj.after.toList, Region.binds .any e = true → upd L i true e.on = true := by
      intro j oj hoj hL e he hb
      by_cases hei : e.on = i
      · simp [upd, hei]
      · simp only [upd, if_neg hei]
        by_cases hji : j = i
        · subst hji; rw [ho] at hoj; cases hoj; exact hedges e he hb
        · simp only [upd, if_neg hji] at hL; exact hI.closed j oj hoj hL e he hb
    have preU : ∀ v j, j < ops.length → upd L i true j = false → upd σ (dstOf ops i) v (dstOf ops j) = a0.tmps.getD (dstOf ops j) undef := by
      intro v j hj hL
      by_cases hji : j = i
      · subst hji; simp [upd] at hL
      · simp only [upd, if_neg hji] at hL; simp only [upd, if_neg (dne j hj hji)]; exact hI.pre j hj hL
    have late : Late ops a0 σ i := by
      intro j hj
      cases hoj : ops[j]? with
      | none => rw [hoj] at hj; cases hj
      | some oj =>
        rw [hoj] at hj
        obtain ⟨e, he, hb⟩ := List.any_eq_true.1 hj
        simp only [Bool.and_eq_true, beq_iff_eq] at hb
        have hjl := (List.getElem?_eq_some_iff.1 hoj).1
        cases hLj : L j with
        | false => exact hI.pre j hjl hLj
        | true => have := hI.closed j oj hoj hLj e he hb.1; rw [hb.2, hLi] at this; cases this
    obtain ⟨k, hkl, hkL, hTk⟩ := hI.state
    unfold SChainStep at hs
    cases hidx : ms.idxOf? i with
    | none =>
      rw [hidx] at hs
      have hnot : ∀ (j m : Nat), ms[j]? = some m → m ≠ i := by
        intro j m hj e
        subst e
        have := List.idxOf?_eq_none_iff.1 hidx
        exact this (List.mem_of_getElem? hj)
      have hs := hs σ w hI.below hold late hk
      have next : ∀ v, pureAt fs i v w → SChainInv ops ms fs B T a0 w0 (upd L i true) (upd σ (dstOf ops i) v) w := by
        intro v hv
        refine ⟨hI.below, closedU, preU v, facts v w hv, k, hkl, fun j m hj => ?_, ?_⟩
        · simp only [upd, if_neg (hnot j m hj)]
          exact hkL j m hj
        · have : valsAt ops ms (upd σ (dstOf ops i) v) = valsAt ops ms σ := by
            funext j
            unfold valsAt
            cases hq : ms[j]? with
            | none => rfl
            | some m => simp only [upd, if_neg (dne _ (chainOk_lt hch j m hq) (hnot j m hq))]
          rw [this]
          exact hTk
      cases hwb : wantedBy ops σ o with
      | false => rw [hwb] at hs; exact next undef hs
      | true =>
        rw [hwb] at hs
        obtain ⟨v, hr, hv⟩ := hs
        exact Does.ok hr (next v hv)
    | some p =>
      rw [hidx] at hs
      have hmp : ms[p]? = some i := by
        rw [List.idxOf?_eq_some_iff] at hidx
        obtain ⟨h1, h2, _⟩ := hidx
        rw [List.getElem?_eq_getElem h1, h2]
      have hpk : p = k := by
        have h1 : ¬ p < k := fun h => by have := (hkL p i hmp).2 h; rw [hLi] at this; cases this
        rcases Nat.lt_or_ge k p with h | h
        · -- the one ahead is listed
          obtain ⟨q, rfl⟩ : ∃ q, p = q + 1 := ⟨p - 1, by omega⟩
          have hpl : q + 1 < ms.length := (List.getElem?_eq_some_iff.1 hmp).1
          have hq : ms[q]? = some ms[q] := List.getElem?_eq_getElem (by omega)
          obtain ⟨e, he, hb, heq⟩ := chainOk_edge hch q ms[q] i o hq hmp ho
          have := hedges e he hb
          rw [heq] at this
          have := (hkL q _ hq).1 this
          omega
        · omega
      subst hpk
      have hs := hs σ w hI.below hold late hk hTk
      have next : ∀ v w', Below B w w' → T (p + 1) (upd (valsAt ops ms σ) p v) w' → pureAt fs i v w' → SChainInv ops ms fs B T a0 w0 (upd L i true) (upd σ (dstOf ops i) v) w' := by
        intro v w' hB hT' hv
        refine ⟨hI.below.trans hB, closedU, preU v, facts v w' hv, p + 1, (List.getElem?_eq_some_iff.1 hmp).1, fun j m hj => ?_, by
          have : valsAt ops ms (upd σ (dstOf ops i) v) = upd (valsAt ops ms σ) p v := by
            funext j
            by_cases hjp : j = p
            · subst hjp
              simp only [upd, if_true, valsAt, hmp]
            · simp only [upd, if_neg hjp]
              unfold valsAt
              cases hq : ms[j]? with
              | none => rfl
              | some m =>
                have hmi : m ≠ i := by
                  intro e; subst e
                  obtain ⟨h1a, h1b⟩ := List.getElem?_eq_some_iff.1 hq
                  obtain ⟨h2a, h2b⟩ := List.getElem?_eq_some_iff.1 hmp
                  rcases Nat.lt_trichotomy j p with h | h | h
                  · exact absurd (h1b.trans h2b.symm) (List.pairwise_iff_getElem.1 hnd j p h1a h2a h)
                  · exact hjp h
                  · exact absurd (h2b.trans h1b.symm) (List.pairwise_iff_getElem.1 hnd p j h2a h1a h)
                simp only [upd, if_neg (dne _ (chainOk_lt hch j m hq) hmi)]
          rw [this]
          exact hT'⟩
        by_cases hmi : m = i
        · subst hmi
          have hjp : j = p := by
            have h1 := (List.getElem?_eq_some_iff.1 hj)
            have h2 := (List.getElem?_eq_some_iff.1 hmp)
            obtain ⟨h1a, h1b⟩ := h1
            obtain ⟨h2a, h2b⟩ := h2
            rcases Nat.lt_trichotomy j p with h | h | h
            · exact absurd (h1b.trans h2b.symm) (List.pairwise_iff_getElem.1 hnd j p h1a h2a h)
            · exact h
            · exact absurd (h2b.trans h1b.symm) (List.pairwise_iff_getElem.1 hnd p j h2a h1a h)
          subst hjp
          simp [upd]
        · simp only [upd, if_neg hmi]
          rw [hkL j m hj]
          have hjp : j ≠ p := by
            intro e; subst e
            rw [hmp] at hj; injection hj with hj; exact hmi hj.symm
          omega
      cases hwb : wantedBy ops σ o with
      | false => rw [hwb] at hs; exact next undef w (Below.refl _ _) hs.1 hs.2
      | true => rw [hwb] at hs; exact Does.mono hs fun v w' h => next v w' h.1 h.2.1 h.2.2
  · intro σ L w hall hold hI
    obtain ⟨k, hkl, hkL, hTk⟩ := hI.state
    have hk : k = ms.length := by
      rcases Nat.lt_or_ge k ms.length with h | h
      · have hq : ms[k]? = some ms[k] := List.getElem?_eq_getElem h
        have := (hkL k _ hq).1 (hall _ (chainOk_lt hch k _ hq))
        omega
      · omega
    subst hk
    refine hpost σ w hI.below hTk (PureFacts.of_all ops 0 fun i o ho => ?_)
    have hi : i < ops.length := (List.getElem?_eq_some_iff.1 ho).1
    have := hI.facts i hi (hall i hi)
    rw [Nat.zero_add]
    simpa [dstOf, ho, pureAt] using this

theorem schain_pure {ms : List Nat} {fs : List (Value → Prop)} {B : Nat} {T : Nat → (Nat → Value) → World → Prop} {i : Nat} {o : Oper} (hno : ms.idxOf? i = none)
    (h : ∀ (σ : Nat → Value) (w : World), Below B w0 w → Hold ops a0 σ → Late ops a0 σ i → Known ops (pureAt fs) σ w o.after.toList → wantedBy ops σ o = true ∧ ∃ v, (execOp (slotEval σ) o).run P w = .ok (.value v) w ∧ pureAt fs i v w) :
    SChainStep P ops ms fs B T a0 w0 i o := by
  unfold SChainStep
  rw [hno]
  intro σ w hB hold late hk
  obtain ⟨hw, h⟩ := h σ w hB hold late hk
  rw [hw]
  exact h

theorem schain_turn {ms : List Nat} {fs : List (Value → Prop)} {B : Nat} {T : Nat → (Nat → Value) → World → Prop} {i k : Nat} {o : Oper} (hyes : ms.idxOf? i = some k)
    (h : ∀ (σ : Nat → Value) (w : World), Below B w0 w → Hold ops a0 σ → Late ops a0 σ i → Known ops (pureAt fs) σ w o.after.toList → T k (valsAt ops ms σ) w → wantedBy ops σ o = true ∧ Does P (slotEval σ) o w fun v w' => Below B w w' ∧ T (k + 1) (upd (valsAt ops ms σ) k v) w' ∧ pureAt fs i v w') :
    SChainStep P ops ms fs B T a0 w0 i o := by
  unfold SChainStep
  rw [hyes]
  intro σ w hB hold late hk hT
  obtain ⟨hw, h⟩ := h σ w hB hold late hk hT
  rw [hw]
  exact h

end

end Go.Proofs.Ytmbjebdkhcpclaa
