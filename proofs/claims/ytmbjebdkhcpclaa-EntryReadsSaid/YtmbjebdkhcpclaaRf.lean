/-
  The rule for a region that draws its order, with facts that speak of several values: the fact of an operation may look at the values of operations that lie ahead of it. Conditions: what a fact looks at is among the operation's edges, or is looked at by one of these.
-/
import Derived.Test.YtmbjebdkhcpclaaRs
set_option linter.unusedSimpArgs false
set_option linter.unusedVariables false
namespace Go.Proofs.Ytmbjebdkhcpclaa
open Go.RowKit

def looksOf (D : List (List Nat)) (i : Nat) : List Nat := (D[i]?).getD [i]
/-- The values that operation i's fact looks at. -/
def valsOf (ops : List Oper) (D : List (List Nat)) (σ : Nat → Value) (i : Nat) : List Value := (looksOf D i).map fun j => σ (dstOf ops j)

def looksOk (ops : List Oper) (D : List (List Nat)) : Bool :=
  ops.zipIdx.all fun (o, i) => (looksOf D i).all fun j => decide (j < ops.length) && (j == i || o.after.toList.any fun e => Region.binds .any e && (e.on == j || (looksOf D e.on).contains j))

def factOf (V : List (List Value → World → Prop)) (i : Nat) (vs : List Value) (w : World) : Prop := ((V[i]?).getD fun _ _ => True) vs w

def KnownF (ops : List Oper) (D : List (List Nat)) (V : List (List Value → World → Prop)) (σ : Nat → Value) (w : World) : List Edge → Prop
  | [] => True
  | e :: rest => (match Region.binds .any e with | true => factOf V e.on (valsOf ops D σ e.on) w | false => True) ∧ KnownF ops D V σ w rest

theorem KnownF.of_all {ops : List Oper} {D : List (List Nat)} {V : List (List Value → World → Prop)} {σ : Nat → Value} {w : World} : ∀ (l : List Edge),
    (∀ e ∈ l, Region.binds .any e = true → factOf V e.on (valsOf ops D σ e.on) w) → KnownF ops D V σ w l
  | [], _ => trivial
  | e :: rest, h => ⟨by split <;> rename_i hb <;> first | exact h e (List.mem_cons_self ..) hb | trivial, KnownF.of_all rest fun e he hb => h e (List.mem_cons_of_mem _ he) hb⟩

def FactStep (P : Program) (ops : List Oper) (D : List (List Nat)) (E : World → World → Prop) (V : List (List Value → World → Prop)) (a0 : Act) (w0 : World) (i : Nat) (o : Oper) : Prop :=
  ∀ (σ : Nat → Value) (w : World), E w0 w → Hold ops a0 σ → KnownF ops D V σ w o.after.toList → wantedBy ops σ o = true ∧
    Does P (slotEval σ) o w fun v w' => E w w' ∧ factOf V i (valsOf ops D (upd σ (dstOf ops i) v) i) w'

def FactSteps (P : Program) (ops : List Oper) (D : List (List Nat)) (E : World → World → Prop) (V : List (List Value → World → Prop)) (a0 : Act) (w0 : World) : Nat → List Oper → Prop
  | _, [] => True
  | i, o :: rest => FactStep P ops D E V a0 w0 i o ∧ FactSteps P ops D E V a0 w0 (i + 1) rest

theorem FactSteps.at {P : Program} {ops : List Oper} {D : List (List Nat)} {E : World → World → Prop} {V : List (List Value → World → Prop)} {a0 : Act} {w0 : World} :
    ∀ (l : List Oper) (k : Nat), FactSteps P ops D E V a0 w0 k l → ∀ i o, l[i]? = some o → FactStep P ops D E V a0 w0 (k + i) o
  | [], _, _, i, o, h => by simp at h
  | x :: rest, k, hs, i, o, h => by
    cases i with
    | zero => simp at h; subst h; exact hs.1
    | succ i =>
      have := FactSteps.at rest (k + 1) hs.2 i o (by simpa using h)
      rwa [Nat.add_assoc, Nat.add_comm 1 i] at this

def EndFacts (ops : List Oper) (D : List (List Nat)) (V : List (List Value → World → Prop)) (σ : Nat → Value) (w : World) : Nat → List Oper → Prop
  | _, [] => True
  | i, _ :: rest => factOf V i (valsOf ops D σ i) w ∧ EndFacts ops D V σ w (i + 1) rest

theorem EndFacts.of_all {ops : List Oper} {D : List (List Nat)} {V : List (List Value → World → Prop)} {σ : Nat → Value} {w : World} : ∀ (l : List Oper) (k : Nat),
    (∀ i, i < l.length → factOf V (k + i) (valsOf ops D σ (k + i)) w) → EndFacts ops D V σ w k l
  | [], _, _ => trivial
  | o :: l, k, h => ⟨by simpa using h 0 (by simp), EndFacts.of_all l (k + 1) fun i hi => by have := h (i + 1) (by simpa using hi); rwa [Nat.add_assoc, Nat.add_comm 1 i]⟩

section
variable {P : Program} {ops : List Oper} {a0 : Act} {w0 : World} {Q : Exit → Act → World → Prop}

theorem wp_region_looks {id : Nat} (hm : P.follows .mixedOrders = true) (E : World → World → Prop) (D : List (List Nat)) (V : List (List Value → World → Prop))
    (hrefl : ∀ w, E w w) (htr : ∀ a b c, E a b → E b c → E a c) (hV : ∀ i vs w w', E w w' → factOf V i vs w → factOf V i vs w')
    (hok : factsOk ops a0.tmps.size = true) (hlk : looksOk ops D = true) (hstep : FactSteps P ops D E V a0 w0.drew 0 ops)
    (hpost : ∀ (σ : Nat → Value) (w : World), E w0.drew w → EndFacts ops D V σ w 0 ops → Q .normal (putAll ops (ops.map fun o => σ ((o.dst).getD 0)) a0) w) :
    (Code.region id ops.toArray true).wp P Q a0 w0 := by
  have looks : ∀ i o, ops[i]? = some o → ∀ j ∈ looksOf D i, j < ops.length ∧ (j = i ∨ ∃ e ∈ o.after.toList, Region.binds .any e = true ∧ (e.on = j ∨ j ∈ looksOf D e.on)) := by
    intro i o ho j hj
    have h1 := List.all_eq_true.1 hlk (o, i) (by rw [List.mem_zipIdx_iff_getElem?]; simpa using ho)
    have h2 := List.all_eq_true.1 h1 j hj
    simp only [Bool.and_eq_true, decide_eq_true_eq, Bool.or_eq_true, beq_iff_eq] at h2
    refine ⟨h2.1, h2.2.imp _root_.id fun h => ?_⟩
    obtain ⟨e, he, hb⟩ := List.any_eq_true.1 h
    simp only [Bool.and_eq_true, Bool.or_eq_true, beq_iff_eq, List.contains_iff_mem] at hb
    exact ⟨e, he, hb.1, hb.2⟩
  refine wp_region_inv hm (fun L σ w => E w0.drew w ∧ (∀ i, i < ops.length → L i = true → ∀ j ∈ looksOf D i, L j = true) ∧ ∀ i, i < ops.length → L i = true → factOf V i (valsOf ops D σ i) w) hok ?_
    ⟨hrefl _, fun i _ h => (by cases h), fun i _ h => (by cases h)⟩ ?_
  · intro i o ho L σ w hLi hedges hold ⟨hE, hC, hF⟩
    have hi : i < ops.length := (List.getElem?_eq_some_iff.1 ho).1
    have hs := FactSteps.at ops 0 hstep i o ho
    rw [Nat.zero_add] at hs
    have hlt : ∀ e ∈ o.after.toList, Region.binds .any e = true → e.on < ops.length := fun e he hb => by
      have := (factsOk_spec hok i o ho).1 e he hb
      omega
    have hk : KnownF ops D V σ w o.after.toList := KnownF.of_all _ fun e he hb => hF _ (hlt e he hb) (hedges e he hb)
    obtain ⟨hw, hd⟩ := hs σ w hE hold hk
    rw [hw]
    refine Does.mono hd fun v w' ⟨hE', hv⟩ => ⟨htr _ _ _ hE hE', fun m hm hL j hj => ?_, fun m hm hL => ?_⟩
    · by_cases hmi : m = i
      · subst hmi
        rcases (looks m o ho j hj).2 with rfl | ⟨e, he, hb, h⟩
        · simp [upd]
        · have hLe := hedges e he hb
          have : L j = true := by
            rcases h with rfl | h
            · exact hLe
            · exact hC _ (hlt e he hb) hLe j h
          by_cases hji : j = m
          · subst hji; simp [upd]
          · simp only [upd, if_neg hji]; exact this
      · simp only [upd, if_neg hmi] at hL
        have := hC m hm hL j hj
        by_cases hji : j = i
        · subst hji; simp [upd]
        · simp only [upd, if_neg hji]; exact this
    · by_cases hmi : m = i
      · subst hmi; exact hv
      · simp only [upd, if_neg hmi] at hL
        have hsame : valsOf ops D (upd σ (dstOf ops i) v) m = valsOf ops D σ m := by
          unfold valsOf
          refine List.map_congr_left fun j hj => ?_
          have hLj := hC m hm hL j hj
          have hji : j ≠ i := fun e => by subst e; rw [hLi] at hLj; cases hLj
          have hjl : j < ops.length := (looks m ops[m] (List.getElem?_eq_getElem hm) j hj).1
          have hoj : ops[j]? = some ops[j] := List.getElem?_eq_getElem hjl
          have hne : dstOf ops j ≠ dstOf ops i := by
            intro e
            obtain ⟨_, ⟨di, hdi, _⟩, _⟩ := factsOk_spec hok i _ ho
            obtain ⟨_, ⟨dj, hdj, _⟩, _⟩ := factsOk_spec hok j _ hoj
            have e' : dj = di := by simpa [dstOf, hoj, ho, hdi, hdj] using e
            exact hji (factsOk_inj hok hoj ho (by rw [hdi, hdj, e']))
          simp only [upd, if_neg hne]
        rw [hsame]
        exact hV _ _ _ _ hE' (hF m hm hL)
  · intro σ L w hall hold ⟨hE, _, hF⟩
    exact hpost σ w hE (EndFacts.of_all ops 0 fun i hi => by rw [Nat.zero_add]; exact hF i hi (hall i hi))

/-- An operation that turns nothing. -/
theorem fact_pure {D : List (List Nat)} {E : World → World → Prop} {V : List (List Value → World → Prop)} {i : Nat} {o : Oper} (hrefl : ∀ w, E w w)
    (h : ∀ (σ : Nat → Value) (w : World), E w0 w → Hold ops a0 σ → KnownF ops D V σ w o.after.toList → wantedBy ops σ o = true ∧ ∃ v, (execOp (slotEval σ) o).run P w = .ok (.value v) w ∧ factOf V i (valsOf ops D (upd σ (dstOf ops i) v) i) w) :
    FactStep P ops D E V a0 w0 i o := by
  intro σ w hE hold hk
  obtain ⟨hw, v, hr, hv⟩ := h σ w hE hold hk
  exact ⟨hw, Does.ok hr ⟨hrefl w, hv⟩⟩
end


/-- A fact that lives on under E. -/
structure SFact (E : World → World → Prop) where
  holds : List Value → World → Prop
  lives : ∀ vs w w', E w w' → holds vs w → holds vs w'

def SFact.val (E : World → World → Prop) (p : Value → Prop) : SFact E := ⟨fun vs _ => p (vs.getD 0 undef), fun _ _ _ _ h => h⟩
def SFact.same (E : World → World → Prop) : SFact E := ⟨fun vs _ => vs.getD 0 undef = vs.getD 1 undef, fun _ _ _ _ h => h⟩
def SFact.one (E : World → World → Prop) (p : Value → World → Prop) (h : ∀ v w w', E w w' → p v w → p v w') : SFact E := ⟨fun vs w => p (vs.getD 0 undef) w, fun _ _ _ hE hp => h _ _ _ hE hp⟩
def SFact.two (E : World → World → Prop) (p : Value → Value → World → Prop) (h : ∀ v u w w', E w w' → p v u w → p v u w') : SFact E := ⟨fun vs w => p (vs.getD 0 undef) (vs.getD 1 undef) w, fun _ _ _ hE hp => h _ _ _ _ hE hp⟩

section
variable {P : Program} {ops : List Oper} {a0 : Act} {w0 : World} {Q : Exit → Act → World → Prop}
theorem wp_region_lives {id : Nat} (hm : P.follows .mixedOrders = true) (E : World → World → Prop) (D : List (List Nat)) (V : List (SFact E))
    (hrefl : ∀ w, E w w) (htr : ∀ a b c, E a b → E b c → E a c)
    (hok : factsOk ops a0.tmps.size = true) (hlk : looksOk ops D = true) (hstep : FactSteps P ops D E (V.map (·.holds)) a0 w0.drew 0 ops)
    (hpost : ∀ (σ : Nat → Value) (w : World), E w0.drew w → EndFacts ops D (V.map (·.holds)) σ w 0 ops → Q .normal (putAll ops (ops.map fun o => σ ((o.dst).getD 0)) a0) w) :
    (Code.region id ops.toArray true).wp P Q a0 w0 := by
  refine wp_region_looks hm E D (V.map (·.holds)) hrefl htr (fun i vs w w' hE h => ?_) hok hlk hstep hpost
  unfold factOf at *
  rw [List.getElem?_map] at *
  cases hv : V[i]? with
  | none => trivial
  | some f => rw [hv] at h; exact f.lives _ _ _ hE h
end

end Go.Proofs.Ytmbjebdkhcpclaa
