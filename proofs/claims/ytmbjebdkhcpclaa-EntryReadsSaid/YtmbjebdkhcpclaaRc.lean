/-
  The rule for a region that draws its order, in which some operations, one behind the other, turn a state; all others only look at elder memory or at values. Conditions: each of the turning operations names the one ahead of it among its edges.
-/
import Derived.Test.YtmbjebdkhcpclaaRs
set_option linter.unusedSimpArgs false
set_option linter.unusedVariables false
namespace Go.Proofs.Ytmbjebdkhcpclaa
open Go.RowKit

/-- Each turning operation names the one ahead of it. -/
def chainOk (ops : List Oper) : List Nat → Bool
  | [] => true
  | [m] => decide (m < ops.length)
  | m :: m' :: rest => decide (m < ops.length) && (match ops[m']? with | some o => o.after.toList.any (fun e => Region.binds .any e && e.on == m) | none => false) && chainOk ops (m' :: rest)

theorem chainOk_lt {ops : List Oper} : ∀ {ms : List Nat}, chainOk ops ms = true → ∀ (k m : Nat), ms[k]? = some m → m < ops.length
  | [], _, k, m, h => by simp at h
  | [a], hc, k, m, h => by
    cases k with
    | zero => simp at h; subst h; simpa [chainOk] using hc
    | succ k => simp at h
  | a :: b :: rest, hc, k, m, h => by
    simp only [chainOk, Bool.and_eq_true] at hc
    cases k with
    | zero => simp at h; subst h; simpa using hc.1.1
    | succ k => exact chainOk_lt hc.2 k m (by simpa using h)

theorem chainOk_edge {ops : List Oper} : ∀ {ms : List Nat}, chainOk ops ms = true → ∀ (k m m' : Nat) (o : Oper), ms[k]? = some m → ms[k + 1]? = some m' → ops[m']? = some o → ∃ e ∈ o.after.toList, Region.binds .any e = true ∧ e.on = m
  | [], _, k, m, m', o, h, _, _ => by simp at h
  | [a], _, k, m, m', o, _, h, _ => by cases k <;> simp at h
  | a :: b :: rest, hc, k, m, m', o, h1, h2, ho => by
    simp only [chainOk, Bool.and_eq_true] at hc
    cases k with
    | zero =>
      simp at h1 h2
      subst h1 h2
      have := hc.1.2
      rw [ho] at this
      obtain ⟨e, he, hb⟩ := List.any_eq_true.1 this
      simp only [Bool.and_eq_true, beq_iff_eq] at hb
      exact ⟨e, he, hb.1, hb.2⟩
    | succ k => exact chainOk_edge hc.2 k m m' o (by simpa using h1) (by simpa using h2) ho

def pureAt (fs : List (Value → Prop)) (i : Nat) (v : Value) (_ : World) : Prop := ((fs[i]?).getD fun _ => True) v

/-- What a step owes: an operation that turns nothing; the k-th of those that turn the state. -/
def ChainStep (P : Program) (ops : List Oper) (ms : List Nat) (fs : List (Value → Prop)) (B : Nat) (T : Nat → World → Prop) (a0 : Act) (w0 : World) (i : Nat) (o : Oper) : Prop :=
  match ms.idxOf? i with
  | none => ∀ (σ : Nat → Value) (w : World), Below B w0 w → Hold ops a0 σ → Known ops (pureAt fs) σ w o.after.toList →
      match wantedBy ops σ o with
      | true => ∃ v, (execOp (slotEval σ) o).run P w = .ok (.value v) w ∧ pureAt fs i v w
      | false => pureAt fs i undef w
  | some k => ∀ (σ : Nat → Value) (w : World), Below B w0 w → Hold ops a0 σ → Known ops (pureAt fs) σ w o.after.toList → T k w →
      match wantedBy ops σ o with
      | true => Does P (slotEval σ) o w fun v w' => Below B w w' ∧ T (k + 1) w' ∧ pureAt fs i v w'
      | false => T (k + 1) w ∧ pureAt fs i undef w

def ChainSteps (P : Program) (ops : List Oper) (ms : List Nat) (fs : List (Value → Prop)) (B : Nat) (T : Nat → World → Prop) (a0 : Act) (w0 : World) : Nat → List Oper → Prop
  | _, [] => True
  | i, o :: rest => ChainStep P ops ms fs B T a0 w0 i o ∧ ChainSteps P ops ms fs B T a0 w0 (i + 1) rest

theorem ChainSteps.at {P : Program} {ops : List Oper} {ms : List Nat} {fs : List (Value → Prop)} {B : Nat} {T : Nat → World → Prop} {a0 : Act} {w0 : World} :
    ∀ (l : List Oper) (k : Nat), ChainSteps P ops ms fs B T a0 w0 k l → ∀ i o, l[i]? = some o → ChainStep P ops ms fs B T a0 w0 (k + i) o
  | [], _, _, i, o, h => by simp at h
  | x :: rest, k, hs, i, o, h => by
    cases i with
    | zero => simp at h; subst h; exact hs.1
    | succ i =>
      have := ChainSteps.at rest (k + 1) hs.2 i o (by simpa using h)
      rwa [Nat.add_assoc, Nat.add_comm 1 i] at this

def PureFacts (fs : List (Value → Prop)) (σ : Nat → Value) : Nat → List Oper → Prop
  | _, [] => True
  | i, o :: rest => ((fs[i]?).getD fun _ => True) (σ ((o.dst).getD 0)) ∧ PureFacts fs σ (i + 1) rest

theorem PureFacts.of_all {fs : List (Value → Prop)} {σ : Nat → Value} : ∀ (l : List Oper) (k : Nat), (∀ i o, l[i]? = some o → ((fs[k + i]?).getD fun _ => True) (σ ((o.dst).getD 0))) → PureFacts fs σ k l
  | [], _, _ => trivial
  | o :: l, k, h => ⟨by simpa using h 0 o rfl, PureFacts.of_all l (k + 1) fun i o ho => by have := h (i + 1) o (by simpa using ho); rwa [Nat.add_assoc, Nat.add_comm 1 i]⟩

section
variable {P : Program} {ops : List Oper} {a0 : Act} {w0 : World} {Q : Exit → Act → World → Prop}

structure ChainInv (ops : List Oper) (ms : List Nat) (fs : List (Value → Prop)) (B : Nat) (T : Nat → World → Prop) (w0 : World) (L : Nat → Bool) (σ : Nat → Value) (w : World) : Prop where
  below : Below B w0 w
  facts : ∀ j, j < ops.length → L j = true → pureAt fs j (σ (dstOf ops j)) w
  state : ∃ k : Nat, k ≤ ms.length ∧ (∀ (j m : Nat), ms[j]? = some m → (L m = true ↔ j < k)) ∧ T k w

theorem wp_region_chain {id : Nat} (hm : P.follows .mixedOrders = true) (ms : List Nat) (fs : List (Value → Prop)) (B : Nat) (T : Nat → World → Prop)
    (hok : factsOk ops a0.tmps.size = true) (hch : chainOk ops ms = true) (hnd : ms.Nodup) (hT : T 0 w0.drew) (hstep : ChainSteps P ops ms fs B T a0 w0 0 ops)
    (hpost : ∀ (σ : Nat → Value) (w : World), Below B w0 w → T ms.length w → PureFacts fs σ 0 ops → Q .normal (putAll ops (ops.map fun o => σ ((o.dst).getD 0)) a0) w) :
    (Code.region id ops.toArray true).wp P Q a0 w0 := by
  refine wp_region_inv hm (ChainInv ops ms fs B T w0) hok ?_ ⟨(Below.refl _ _).drew, fun j _ h => (by cases h), 0, Nat.zero_le _, fun j m _ => ⟨fun h => (by cases h), fun h => absurd h (Nat.not_lt_zero _)⟩, hT⟩ ?_
  · intro i o ho L σ w hLi hedges hold hI
    have hi : i < ops.length := (List.getElem?_eq_some_iff.1 ho).1
    have hs := ChainSteps.at ops 0 hstep i o ho
    rw [Nat.zero_add] at hs
    have hk : Known ops (pureAt fs) σ w o.after.toList := Known.of_all _ fun e he hb => by
      have := (factsOk_spec hok i o ho).1 e he hb
      exact hI.facts _ (by omega) (hedges e he hb)
    have dne : ∀ j, j < ops.length → j ≠ i → dstOf ops j ≠ dstOf ops i := by
      intro j hj hij e
      have hoj : ops[j]? = some ops[j] := List.getElem?_eq_getElem hj
      obtain ⟨_, ⟨di, hdi, _⟩, _⟩ := factsOk_spec hok i _ ho
      obtain ⟨_, ⟨dj, hdj, _⟩, _⟩ := factsOk_spec hok j _ hoj
      have e' : dj = di := by simpa [dstOf, hoj, ho, hdi, hdj] using e
      exact hij (factsOk_inj hok hoj ho (by rw [hdi, hdj, e']))
    have facts : ∀ v w', pureAt fs i v w' → ∀ j, j < ops.length → upd L i true j = true → pureAt fs j (upd σ (dstOf ops i) v (dstOf ops j)) w' := by
      intro v w' hv j hj hL
      by_cases hij : j = i
      · subst hij; simp only [upd, if_true]; exact hv
      · simp only [upd, if_neg hij] at hL
        simp only [upd, if_neg (dne j hj hij)]
        exact hI.facts j hj hL
    obtain ⟨k, hkl, hkL, hTk⟩ := hI.state
    unfold ChainStep at hs
    cases hidx : ms.idxOf? i with
    | none =>
      rw [hidx] at hs
      have hnot : ∀ (j m : Nat), ms[j]? = some m → m ≠ i := by
        intro j m hj e
        subst e
        have := List.idxOf?_eq_none_iff.1 hidx
        exact this (List.mem_of_getElem? hj)
      have hs := hs σ w hI.below hold hk
      have next : ∀ v, pureAt fs i v w → ChainInv ops ms fs B T w0 (upd L i true) (upd σ (dstOf ops i) v) w := by
        intro v hv
        refine ⟨hI.below, facts v w hv, k, hkl, fun j m hj => ?_, hTk⟩
        simp only [upd, if_neg (hnot j m hj)]
        exact hkL j m hj
      cases hwb : wantedBy ops σ o with
      | false => rw [hwb] at hs; exact next undef hs
      | true =>
        rw [hwb] at hs
        obtain ⟨v, hr, hv⟩ := hs
        exact Does.ok hr (next v hv)
    | some p =>
      rw [hidx] at hs
      have hmp : ms[p]? = some i := by
        rw [List.idxOf?_eq_some_iff] at hidx
        obtain ⟨h1, h2, _⟩ := hidx
        rw [List.getElem?_eq_getElem h1, h2]
      have hpk : p = k := by
        have h1 : ¬ p < k := fun h => by have := (hkL p i hmp).2 h; rw [hLi] at this; cases this
        rcases Nat.lt_or_ge k p with h | h
        · -- the one ahead is listed
          obtain ⟨q, rfl⟩ : ∃ q, p = q + 1 := ⟨p - 1, by omega⟩
          have hpl : q + 1 < ms.length := (List.getElem?_eq_some_iff.1 hmp).1
          have hq : ms[q]? = some ms[q] := List.getElem?_eq_getElem (by omega)
          obtain ⟨e, he, hb, heq⟩ := chainOk_edge hch q ms[q] i o hq hmp ho
          have := hedges e he hb
          rw [heq] at this
          have := (hkL q _ hq).1 this
          omega
        · omega
      subst hpk
      have hs := hs σ w hI.below hold hk hTk
      have next : ∀ v w', Below B w w' → T (p + 1) w' → pureAt fs i v w' → ChainInv ops ms fs B T w0 (upd L i true) (upd σ (dstOf ops i) v) w' := by
        intro v w' hB hT' hv
        refine ⟨hI.below.trans hB, facts v w' hv, p + 1, (List.getElem?_eq_some_iff.1 hmp).1, fun j m hj => ?_, hT'⟩
        by_cases hmi : m = i
        · subst hmi
          have hjp : j = p := by
            have h1 := (List.getElem?_eq_some_iff.1 hj)
            have h2 := (List.getElem?_eq_some_iff.1 hmp)
            obtain ⟨h1a, h1b⟩ := h1
            obtain ⟨h2a, h2b⟩ := h2
            rcases Nat.lt_trichotomy j p with h | h | h
            · exact absurd (h1b.trans h2b.symm) (List.pairwise_iff_getElem.1 hnd j p h1a h2a h)
            · exact h
            · exact absurd (h2b.trans h1b.symm) (List.pairwise_iff_getElem.1 hnd p j h2a h1a h)
          subst hjp
          simp [upd]
        · simp only [upd, if_neg hmi]
          rw [hkL j m hj]
          have hjp : j ≠ p := by
            intro e; subst e
            rw [hmp] at hj; injection hj with hj; exact hmi hj.symm
          omega
      cases hwb : wantedBy ops σ o with
      | false => rw [hwb] at hs; exact next undef w (Below.refl _ _) hs.1 hs.2
      | true => rw [hwb] at hs; exact Does.mono hs fun v w' h => next v w' h.1 h.2.1 h.2.2
  · intro σ L w hall hold hI
    obtain ⟨k, hkl, hkL, hTk⟩ := hI.state
    have hk : k = ms.length := by
      rcases Nat.lt_or_ge k ms.length with h | h
      · have hq : ms[k]? = some ms[k] := List.getElem?_eq_getElem h
        have := (hkL k _ hq).1 (hall _ (chainOk_lt hch k _ hq))
        omega
      · omega
    subst hk
    refine hpost σ w hI.below hTk (PureFacts.of_all ops 0 fun i o ho => ?_)
    have hi : i < ops.length := (List.getElem?_eq_some_iff.1 ho).1
    have := hI.facts i hi (hall i hi)
    rw [Nat.zero_add]
    simpa [dstOf, ho, pureAt] using this

theorem chain_pure {ms : List Nat} {fs : List (Value → Prop)} {B : Nat} {T : Nat → World → Prop} {i : Nat} {o : Oper} (hno : ms.idxOf? i = none)
    (h : ∀ (σ : Nat → Value) (w : World), Below B w0 w → Hold ops a0 σ → Known ops (pureAt fs) σ w o.after.toList → wantedBy ops σ o = true ∧ ∃ v, (execOp (slotEval σ) o).run P w = .ok (.value v) w ∧ pureAt fs i v w) :
    ChainStep P ops ms fs B T a0 w0 i o := by
  unfold ChainStep
  rw [hno]
  intro σ w hB hold hk
  obtain ⟨hw, h⟩ := h σ w hB hold hk
  rw [hw]
  exact h

theorem chain_turn {ms : List Nat} {fs : List (Value → Prop)} {B : Nat} {T : Nat → World → Prop} {i k : Nat} {o : Oper} (hyes : ms.idxOf? i = some k)
    (h : ∀ (σ : Nat → Value) (w : World), Below B w0 w → Hold ops a0 σ → Known ops (pureAt fs) σ w o.after.toList → T k w → wantedBy ops σ o = true ∧ Does P (slotEval σ) o w fun v w' => Below B w w' ∧ T (k + 1) w' ∧ pureAt fs i v w') :
    ChainStep P ops ms fs B T a0 w0 i o := by
  unfold ChainStep
  rw [hyes]
  intro σ w hB hold hk hT
  obtain ⟨hw, h⟩ := h σ w hB hold hk hT
  rw [hw]
  exact h

theorem below_row {B : Nat} {w w' : World} {g : Nat} (hG : w.grownBy w' (some g)) (hB : B ≤ w.heap.size) (hg : B ≤ g) : Below B w w' :=
  (Below.refl B w).grown hG hB (fun k e => by cases e; exact hg)
end

end Go.Proofs.Ytmbjebdkhcpclaa
