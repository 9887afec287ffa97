/-
  The rule for a region that draws its order, with blocks that belong to one value alone: an operation may write the block of a value that it eats. Conditions: an eaten value is used by its eater alone; a fact on a value speaks of old memory and of the value's own block.
-/
import Derived.Test.YtmbjebdkhcpclaaLb
set_option linter.unusedSimpArgs false
set_option linter.unusedVariables false
namespace Go.Proofs.Ytmbjebdkhcpclaa
open Go.RowKit

def eats (cons : List (Nat × Nat)) (i : Nat) : Option Nat := (cons.find? fun p => p.1 == i).map (·.2)
def eaten (cons : List (Nat × Nat)) (j : Nat) : Bool := cons.any fun p => p.2 == j

/-- An eaten value has one eater, which names it among its edges. -/
def sepOk (ops : List Oper) (cons : List (Nat × Nat)) : Bool :=
  cons.all fun (i, j) => decide (j < ops.length) &&
    ops.zipIdx.all fun (o, k) => if k == i then o.after.toList.any (fun e => Region.binds .any e && e.on == j) else eats cons k != some j

/-- What operation i is told of operation j: nothing, if j's value is eaten by another one. -/
def seen (cons : List (Nat × Nat)) (V : Nat → Value → World → Prop) (i j : Nat) (v : Value) (w : World) : Prop :=
  match eaten cons j with
  | false => V j v w
  | true => match eats cons i == some j with
    | true => V j v w
    | false => True

/-- The block that belongs to the value of operation i: of those operations alone that are named as owners. -/
def ownOf (ow : List Nat) (i : Nat) (v : Value) : Option Nat :=
  match ow.contains i with
  | true => v.ownBlock
  | false => none

/-- From w to w' old memory and the block g are as they were. -/
structure SameAt (B : Nat) (g : Option Nat) (w w' : World) : Prop where
  os : w'.os = w.os
  tape : w'.tape = w.tape
  output : w'.output = w.output
  size : w.heap.size ≤ w'.heap.size
  block : ∀ k, k < w.heap.size → (k < B ∨ g = some k) → w'.heap[k]? = w.heap[k]?

/-- The block that an operation may write. -/
def rowOf (ops : List Oper) (cons : List (Nat × Nat)) (ow : List Nat) (σ : Nat → Value) (i : Nat) : Option Nat :=
  match eats cons i with
  | some j => ownOf ow j (σ (dstOf ops j))
  | none => none

/-- What a step owes. -/
structure Owes (B : Nat) (row g : Option Nat) (w w' : World) : Prop where
  below : Below B w w'
  grown : w.grownBy w' row
  own : ∀ k, g = some k → k < w'.heap.size ∧ (k < B ∨ w.heap.size ≤ k ∨ row = some k)

def SepStep (P : Program) (ops : List Oper) (cons : List (Nat × Nat)) (ow : List Nat) (V : Nat → Value → World → Prop) (a0 : Act) (w0 : World) (i : Nat) (o : Oper) : Prop :=
  ∀ (σ : Nat → Value) (w : World), Ext w0 w → (∀ t, (ops.all fun o => o.dst != some t) = true → σ t = a0.tmps.getD t undef) → Known ops (seen cons V i) σ w o.after.toList →
    match wantedBy ops σ o with
    | true => Does P (slotEval σ) o w fun v w' => Owes w0.heap.size (rowOf ops cons ow σ i) (ownOf ow i v) w w' ∧ V i v w'
    | false => V i undef w

def SepSteps (P : Program) (ops : List Oper) (cons : List (Nat × Nat)) (ow : List Nat) (V : Nat → Value → World → Prop) (a0 : Act) (w0 : World) : Nat → List Oper → Prop
  | _, [] => True
  | i, o :: rest => SepStep P ops cons ow V a0 w0 i o ∧ SepSteps P ops cons ow V a0 w0 (i + 1) rest

theorem SepSteps.at {P : Program} {ops : List Oper} {cons : List (Nat × Nat)} {ow : List Nat} {V : Nat → Value → World → Prop} {a0 : Act} {w0 : World} :
    ∀ (l : List Oper) (k : Nat), SepSteps P ops cons ow V a0 w0 k l → ∀ i o, l[i]? = some o → SepStep P ops cons ow V a0 w0 (k + i) o
  | [], _, _, i, o, h => by simp at h
  | x :: rest, k, hs, i, o, h => by
    cases i with
    | zero => simp at h; subst h; exact hs.1
    | succ i =>
      have := SepSteps.at rest (k + 1) hs.2 i o (by simpa using h)
      rwa [Nat.add_assoc, Nat.add_comm 1 i] at this

/-- The facts that are left at the end. -/
def leftFact (cons : List (Nat × Nat)) (V : Nat → Value → World → Prop) (i : Nat) (v : Value) (w : World) : Prop :=
  match eaten cons i with
  | true => True
  | false => V i v w

theorem eats_mem {cons : List (Nat × Nat)} {i j : Nat} (h : eats cons i = some j) : (i, j) ∈ cons := by
  unfold eats at h
  cases hf : cons.find? (fun p => p.1 == i) with
  | none => rw [hf] at h; cases h
  | some p =>
    rw [hf] at h
    have h1 := List.find?_some hf
    have h2 := List.mem_of_find?_eq_some hf
    obtain ⟨a, b⟩ := p
    simp only [beq_iff_eq] at h1
    simp only [Option.map_some, Option.some.injEq] at h
    subst h1 h
    exact h2

def LeftFacts (ops : List Oper) (cons : List (Nat × Nat)) (V : Nat → Value → World → Prop) (σ : Nat → Value) (w : World) : Nat → List Oper → Prop
  | _, [] => True
  | i, o :: rest => leftFact cons V i (σ ((o.dst).getD 0)) w ∧ LeftFacts ops cons V σ w (i + 1) rest

theorem LeftFacts.of_all {ops : List Oper} {cons : List (Nat × Nat)} {V : Nat → Value → World → Prop} {σ : Nat → Value} {w : World} : ∀ (l : List Oper) (k : Nat),
    (∀ i o, l[i]? = some o → leftFact cons V (k + i) (σ ((o.dst).getD 0)) w) → LeftFacts ops cons V σ w k l
  | [], _, _ => trivial
  | o :: l, k, h => ⟨by simpa using h 0 o rfl, LeftFacts.of_all l (k + 1) fun i o ho => by have := h (i + 1) o (by simpa using ho); rwa [Nat.add_assoc, Nat.add_comm 1 i]⟩

section
variable {P : Program} {ops : List Oper} {cons : List (Nat × Nat)} {ow : List Nat} {V : Nat → Value → World → Prop} {a0 : Act} {w0 : World} {Q : Exit → Act → World → Prop}

/-- Listed, and not yet eaten. -/
def Lives (cons : List (Nat × Nat)) (L : Nat → Bool) (j : Nat) : Prop := L j = true ∧ ∀ i, (i, j) ∈ cons → L i = false

structure SepInv (ops : List Oper) (cons : List (Nat × Nat)) (ow : List Nat) (V : Nat → Value → World → Prop) (w0 : World) (L : Nat → Bool) (σ : Nat → Value) (w : World) : Prop where
  ext : Ext w0 w
  facts : ∀ j, j < ops.length → Lives cons L j → V j (σ (dstOf ops j)) w ∧ ∀ k, ownOf ow j (σ (dstOf ops j)) = some k → k < w.heap.size
  apart : ∀ i j, i < ops.length → j < ops.length → i ≠ j → Lives cons L i → Lives cons L j → ∀ k, ownOf ow i (σ (dstOf ops i)) = some k → ownOf ow j (σ (dstOf ops j)) = some k → k < w0.heap.size

theorem wp_region_sep {id : Nat} (hm : P.follows .mixedOrders = true) (cons : List (Nat × Nat)) (ow : List Nat) (V : Nat → Value → World → Prop)
    (hV : ∀ i v w w', SameAt w0.heap.size (ownOf ow i v) w w' → V i v w → V i v w')
    (hok : factsOk ops a0.tmps.size = true) (hsep : sepOk ops cons = true) (hstep : SepSteps P ops cons ow V a0 w0.drew 0 ops)
    (hpost : ∀ (σ : Nat → Value) (w : World), Ext w0 w → LeftFacts ops cons V σ w 0 ops → Q .normal (putAll ops (ops.map fun o => σ ((o.dst).getD 0)) a0) w) :
    (Code.region id ops.toArray true).wp P Q a0 w0 := by
  have hx : Ext w0 w0.drew := Ext.drew1 w0
  have hsz : w0.drew.heap.size = w0.heap.size := rfl
  have sep : ∀ i j, (i, j) ∈ cons → j < ops.length ∧ ∀ k o, ops[k]? = some o → (k = i → ∃ e ∈ o.after.toList, Region.binds .any e = true ∧ e.on = j) ∧ (k ≠ i → eats cons k ≠ some j) := by
    intro i j hij
    have h1 := List.all_eq_true.1 hsep (i, j) hij
    simp only [Bool.and_eq_true, decide_eq_true_eq] at h1
    refine ⟨h1.1, fun k o ho => ?_⟩
    have h2 := List.all_eq_true.1 h1.2 (o, k) (by rw [List.mem_zipIdx_iff_getElem?]; simpa using ho)
    constructor
    · rintro rfl
      simp only [beq_self_eq_true, if_true] at h2
      obtain ⟨e, he, hb⟩ := List.any_eq_true.1 h2
      simp only [Bool.and_eq_true, beq_iff_eq] at hb
      exact ⟨e, he, hb.1, hb.2⟩
    · intro hne
      have hne' : (k == i) = false := beq_eq_false_iff_ne.2 hne
      simp only [hne', Bool.false_eq_true, if_false] at h2
      simpa using h2
  refine wp_region_inv hm (SepInv ops cons ow V w0) hok ?_ ⟨hx, fun j _ h => (by cases h.1), fun i j _ _ _ h => (by cases h.1)⟩ ?_
  · intro i o ho L σ w hLi hedges hold hI
    have hi : i < ops.length := (List.getElem?_eq_some_iff.1 ho).1
    have hs := SepSteps.at ops 0 hstep i o ho
    rw [Nat.zero_add] at hs
    -- what the edges name lives, where nobody else eats it
    have lives : ∀ e ∈ o.after.toList, Region.binds .any e = true → (eaten cons e.on = false ∨ eats cons i = some e.on) → Lives cons L e.on := by
      intro e he hb hor
      refine ⟨hedges e he hb, fun k hk => ?_⟩
      rcases hor with hne | heat
      · have := List.any_eq_false.1 hne (k, e.on) hk
        simp at this
      · obtain ⟨_, hs2⟩ := sep k e.on hk
        by_cases hki : i = k
        · subst hki; exact hLi
        · exact absurd heat ((hs2 i o ho).2 hki)
    have hk : Known ops (seen cons V i) σ w o.after.toList := Known.of_all _ fun e he hb => by
      have hlt := (factsOk_spec hok i o ho).1 e he hb
      unfold seen
      cases hea : eaten cons e.on with
      | false => exact (hI.facts _ (by omega) (lives e he hb (.inl hea))).1
      | true =>
        cases heq : (eats cons i == some e.on) with
        | false => trivial
        | true => exact (hI.facts _ (by omega) (lives e he hb (.inr (by simpa using heq)))).1
    have hs := hs σ w ⟨hI.ext.os, hI.ext.tape, hI.ext.output, hI.ext.size, hI.ext.block⟩ hold hk
    rw [hsz] at hs
    have dne : ∀ j, j < ops.length → j ≠ i → dstOf ops j ≠ dstOf ops i := by
      intro j hj hij e
      have hoj : ops[j]? = some ops[j] := List.getElem?_eq_getElem hj
      obtain ⟨_, ⟨di, hdi, _⟩, _⟩ := factsOk_spec hok i _ ho
      obtain ⟨_, ⟨dj, hdj, _⟩, _⟩ := factsOk_spec hok j _ hoj
      have e' : dj = di := by simpa [dstOf, hoj, ho, hdi, hdj] using e
      exact hij (factsOk_inj hok hoj ho (by rw [hdi, hdj, e']))
    have livesOld : ∀ j, j ≠ i → Lives cons (upd L i true) j → Lives cons L j ∧ eats cons i ≠ some j := by
      intro j hji hl
      refine ⟨⟨by have := hl.1; simpa [upd, hji] using this, fun k hk => ?_⟩, fun he => ?_⟩
      · have := hl.2 k hk
        by_cases hki : k = i
        · subst hki; exact hLi
        · simpa [upd, hki] using this
      · have := hl.2 i (eats_mem he)
        simp [upd] at this
    -- what is eaten lived
    have eatenLives : ∀ j, eats cons i = some j → j < ops.length ∧ Lives cons L j := by
      intro j he
      obtain ⟨hj, hs2⟩ := sep i j (eats_mem he)
      obtain ⟨e, he1, he2, rfl⟩ := (hs2 i o ho).1 rfl
      exact ⟨hj, lives e he1 he2 (.inr he)⟩
    have next : ∀ v w', Owes w0.heap.size (rowOf ops cons ow σ i) (ownOf ow i v) w w' → V i v w' → SepInv ops cons ow V w0 (upd L i true) (upd σ (dstOf ops i) v) w' := by
      intro v w' hO hv
      have rowApart : ∀ j, j < ops.length → j ≠ i → Lives cons (upd L i true) j → ∀ k, ownOf ow j (σ (dstOf ops j)) = some k → w0.heap.size ≤ k → rowOf ops cons ow σ i ≠ some k := by
        intro j hj hji hl k hk hge hrow
        obtain ⟨hlj, hnj⟩ := livesOld j hji hl
        unfold rowOf at hrow
        cases he : eats cons i with
        | none => rw [he] at hrow; cases hrow
        | some m =>
          rw [he] at hrow
          obtain ⟨hm1, hm2⟩ := eatenLives m he
          have hne : m ≠ j := fun e => hnj (e ▸ he)
          have := hI.apart m j hm1 hj hne hm2 hlj k hrow hk
          omega
      have hge : ∀ j, j < ops.length → j ≠ i → Lives cons (upd L i true) j → SameAt w0.heap.size (ownOf ow j (σ (dstOf ops j))) w w' := by
        intro j hj hji hl
        refine ⟨hO.below.os, hO.below.tape, hO.below.output, hO.below.size, fun k hk hor => ?_⟩
        by_cases hkB : k < w0.heap.size
        · exact hO.below.block k hkB
        · have hown := hor.resolve_left hkB
          exact hO.grown.block k hk (fun e => rowApart j hj hji hl k hown (by omega) e.symm)
      refine ⟨Below.trans hI.ext hO.below, fun j hj hl => ?_, fun a b ha hb hab hla hlb k hka hkb => ?_⟩
      · by_cases hji : j = i
        · subst hji
          simp only [upd, if_true]
          exact ⟨hv, fun k hk => (hO.own k hk).1⟩
        · simp only [upd, if_neg (dne j hj hji)]
          obtain ⟨hlj, _⟩ := livesOld j hji hl
          obtain ⟨h1, h2⟩ := hI.facts j hj hlj
          exact ⟨hV _ _ _ _ (hge j hj hji hl) h1, fun k hk => Nat.lt_of_lt_of_le (h2 k hk) hO.below.size⟩
      · -- the new value's block against an elder one's
        have core : ∀ j, j < ops.length → j ≠ i → Lives cons (upd L i true) j → ∀ k, ownOf ow i v = some k → ownOf ow j (σ (dstOf ops j)) = some k → k < w0.heap.size := by
          intro j hj hji hl k hk1 hk2
          rcases (hO.own k hk1).2 with h | h | h
          · exact h
          · obtain ⟨hlj, _⟩ := livesOld j hji hl
            have := (hI.facts j hj hlj).2 k hk2
            omega
          · rcases Nat.lt_or_ge k w0.heap.size with h' | h'
            · exact h'
            · exact absurd h (rowApart j hj hji hl k hk2 h')
        by_cases hai : a = i
        · subst hai
          have hba : b ≠ a := fun e => hab e.symm
          simp only [upd, if_true] at hka
          simp only [upd, if_neg (dne b hb hba)] at hkb
          exact core b hb hba hlb k hka hkb
        · by_cases hbi : b = i
          · subst hbi
            simp only [upd, if_true] at hkb
            simp only [upd, if_neg (dne a ha hai)] at hka
            exact core a ha hai hla k hkb hka
          · simp only [upd, if_neg (dne a ha hai)] at hka
            simp only [upd, if_neg (dne b hb hbi)] at hkb
            exact hI.apart a b ha hb hab (livesOld a hai hla).1 (livesOld b hbi hlb).1 k hka hkb
    cases hwb : wantedBy ops σ o with
    | false =>
      rw [hwb] at hs
      refine next undef w ⟨Below.refl _ _, World.grownBy.refl _ _, fun k hk => by unfold ownOf at hk; split at hk <;> cases hk⟩ hs
    | true => rw [hwb] at hs; exact Does.mono hs fun v w' h => next v w' h.1 h.2
  · intro σ L w hall hold hI
    refine hpost σ w hI.ext (LeftFacts.of_all ops 0 fun i o ho => ?_)
    have hi : i < ops.length := (List.getElem?_eq_some_iff.1 ho).1
    unfold leftFact
    rw [Nat.zero_add]
    cases hea : eaten cons i with
    | true => trivial
    | false =>
      have hl : Lives cons L i := ⟨hall i hi, fun k hk => by
        have := List.any_eq_false.1 hea (k, i) hk
        simp at this⟩
      have := (hI.facts i hi hl).1
      simpa [dstOf, ho] using this
end

/-! ### Facts by kinds -/

/-- What is said of a value: something of the value alone; or that it is a slice of numbers in a block of its own. -/
inductive Fact where
  | pure (p : Value → Prop)
  | own (base : Nat) (e : TypeId) (k : IntKind) (xs : List Int)

def Fact.holds : Fact → Value → World → Prop
  | .pure p, v, _ => p v
  | .own base e k xs, v, w => Own w base e k v xs

def Fact.isOwn : Fact → Bool
  | .pure _ => false
  | .own .. => true

def factAt (fs : List Fact) (i : Nat) : Value → World → Prop := ((fs[i]?).getD (.pure fun _ => True)).holds

def ownersOk (fs : List Fact) (ow : List Nat) : Prop := ∀ i, ((fs[i]?).getD (.pure fun _ => True)).isOwn = true → ow.contains i = true

def ownersOkB (fs : List Fact) (ow : List Nat) : Bool := fs.zipIdx.all fun (f, i) => !f.isOwn || ow.contains i

theorem ownersOk_of {fs : List Fact} {ow : List Nat} (h : ownersOkB fs ow = true) : ownersOk fs ow := by
  intro i hi
  cases hf : fs[i]? with
  | none => rw [hf] at hi; simp [Fact.isOwn] at hi
  | some f =>
    rw [hf] at hi
    have := List.all_eq_true.1 h (f, i) (by rw [List.mem_zipIdx_iff_getElem?]; simpa using hf)
    simp only [Option.getD_some] at hi
    simpa [hi] using this

theorem factAt_local {fs : List Fact} {ow : List Nat} (h : ownersOk fs ow) (B : Nat) (i : Nat) (v : Value) (w w' : World) (hs : SameAt B (ownOf ow i v) w w') (hf : factAt fs i v w) : factAt fs i v w' := by
  unfold factAt at *
  have ho := h i
  cases hc : (fs[i]?).getD (.pure fun _ => True) with
  | pure p => rw [hc] at hf; exact hf
  | own base e k xs =>
    rw [hc] at hf ho
    have hown : ownOf ow i v = v.ownBlock := by unfold ownOf; rw [ho rfl]
    rw [hown] at hs
    refine ⟨hf.1, ?_⟩
    rcases hf.2 with h2 | ⟨g, cap, cur, rfl, hg, hh, rest⟩
    · exact .inl h2
    · exact .inr ⟨g, cap, cur, rfl, hg, by rw [hs.block g (Array.getElem?_eq_some_iff.1 hh).1 (.inr rfl)]; exact hh, rest⟩

section
variable {P : Program} {ops : List Oper} {cons : List (Nat × Nat)} {ow : List Nat} {fs : List Fact} {V : Nat → Value → World → Prop} {a0 : Act} {w0 : World} {Q : Exit → Act → World → Prop}

/-- The slots that the region does not write are as they were. -/
def Hold (ops : List Oper) (a0 : Act) (σ : Nat → Value) : Prop := ∀ t, (ops.all fun o => o.dst != some t) = true → σ t = a0.tmps.getD t undef

theorem wp_region_kinds {id : Nat} (hm : P.follows .mixedOrders = true) (cons : List (Nat × Nat)) (ow : List Nat) (fs : List Fact) (how : ownersOkB fs ow = true)
    (hok : factsOk ops a0.tmps.size = true) (hsep : sepOk ops cons = true) (hstep : SepSteps P ops cons ow (factAt fs) a0 w0.drew 0 ops)
    (hpost : ∀ (σ : Nat → Value) (w : World), Ext w0 w → LeftFacts ops cons (factAt fs) σ w 0 ops → Q .normal (putAll ops (ops.map fun o => σ ((o.dst).getD 0)) a0) w) :
    (Code.region id ops.toArray true).wp P Q a0 w0 :=
  wp_region_sep hm cons ow (factAt fs) (fun i v w w' hs h => factAt_local (ownersOk_of how) _ i v w w' hs h) hok hsep hstep hpost

/-- An operation that turns nothing. -/
theorem sep_pure {i : Nat} {o : Oper} (hno : ow.contains i = false)
    (h : ∀ (σ : Nat → Value) (w : World), Ext w0 w → Hold ops a0 σ → Known ops (seen cons V i) σ w o.after.toList → wantedBy ops σ o = true ∧ ∃ v, (execOp (slotEval σ) o).run P w = .ok (.value v) w ∧ V i v w) :
    SepStep P ops cons ow V a0 w0 i o := by
  intro σ w hE hold hk
  obtain ⟨hw, v, hr, hv⟩ := h σ w hE hold hk
  rw [hw]
  refine Does.ok hr ⟨⟨Below.refl _ _, World.grownBy.refl _ _, fun k hk => ?_⟩, hv⟩
  unfold ownOf at hk
  rw [hno] at hk
  cases hk

/-- A call, an append, a literal: it leaves a value with a block of its own. -/
theorem sep_own {i : Nat} {o : Oper} (hyes : ow.contains i = true)
    (h : ∀ (σ : Nat → Value) (w : World), Ext w0 w → Hold ops a0 σ → Known ops (seen cons V i) σ w o.after.toList → wantedBy ops σ o = true ∧
      Does P (slotEval σ) o w fun v w' => Below w0.heap.size w w' ∧ w.grownBy w' (rowOf ops cons ow σ i) ∧ (∀ k, v.ownBlock = some k → k < w'.heap.size ∧ (w.heap.size ≤ k ∨ rowOf ops cons ow σ i = some k)) ∧ V i v w') :
    SepStep P ops cons ow V a0 w0 i o := by
  intro σ w hE hold hk
  obtain ⟨hw, hd⟩ := h σ w hE hold hk
  rw [hw]
  refine Does.mono hd fun v w' ⟨h1, h2, h3, h4⟩ => ⟨⟨h1, h2, fun k hk => ?_⟩, h4⟩
  unfold ownOf at hk
  rw [hyes] at hk
  exact ⟨(h3 k hk).1, .inr (h3 k hk).2⟩

/-- A call that makes a slice in a new block: it eats nothing. -/
theorem owes_new {w w' : World} {e : TypeId} {k : IntKind} {v : Value} {xs : List Int} (hE : Ext w w') (hO : Own w' w.heap.size e k v xs) (B : Nat) (hB : B ≤ w.heap.size) :
    Below B w w' ∧ w.grownBy w' none ∧ (∀ q, v.ownBlock = some q → q < w'.heap.size ∧ (w.heap.size ≤ q ∨ (none : Option Nat) = some q)) :=
  ⟨hE.mono hB, ⟨hE.os, hE.tape, hE.output, hE.size, fun q hq _ => hE.block q hq⟩, fun q hq => ⟨(hO.lt q hq).2, .inl (hO.lt q hq).1⟩⟩

/-- What grows out of an eaten value. -/
theorem owes_grew {w w' : World} {base B : Nat} {e : TypeId} {k : IntKind} {v v' : Value} {xs : List Int} (hG : Grew w w' v v') (hO : Own w' base e k v' xs) (hB : B ≤ w.heap.size) (hv : ∀ q, v.ownBlock = some q → B ≤ q) :
    Below B w w' ∧ w.grownBy w' v.ownBlock ∧ (∀ q, v'.ownBlock = some q → q < w'.heap.size ∧ (w.heap.size ≤ q ∨ v.ownBlock = some q)) :=
  ⟨hG.below hB hv, hG.grown, fun q hq => ⟨(hO.lt q hq).2, hG.own q hq⟩⟩
end

end Go.Proofs.Ytmbjebdkhcpclaa
