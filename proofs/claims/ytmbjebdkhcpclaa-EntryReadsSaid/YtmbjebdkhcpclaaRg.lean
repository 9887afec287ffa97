/-
  A rule for a region that draws its order, in plain Lean: each operation is given a fact about its value that later steps keep; each is shown to reach its fact from the facts of the operations that its edges name; then the region ends with all the facts, whatever order was drawn. Conditions: the edges point backwards, each operation writes a slot of its own.
-/
import Derived.Orders
import Derived.WalkKit
import Derived.Deep.Draws
import Derived.KernelRfl
set_option linter.unusedSimpArgs false
set_option linter.unusedVariables false
namespace Go.Proofs.Ytmbjebdkhcpclaa
open Go.RowKit

/-- What one operation does, of its operands' values alone. -/
def Does (P : Program) (ρ : Operand → Value) (o : Oper) (w : World) (K : Value → World → Prop) : Prop :=
  match (execOp ρ o).run P w with
  | .ok (.value v) w' => K v w'
  | .ok .skip w' => K undef w'
  | .ok (.enter f args) w' => Calls P f args w' fun e w'' => ∃ v, e = .returned v ∧ K v w''
  | _ => False

theorem Does.wp {P : Program} {o : Oper} {a : Act} {w : World} {K : Act → World → Prop} {Q : Exit → Act → World → Prop}
    (h : Does P a.eval o w fun v w' => K (a.put o.dst v) w') : o.wp P a w K Q := by
  unfold Does at h
  unfold Oper.wp
  split at h
  · rename_i v w' hr; rw [hr]; exact h
  · rename_i w' hr; rw [hr]; exact h
  · rename_i f args w' hr
    rw [hr]
    exact Calls.mono h fun e w'' ⟨v, he, hk⟩ => by subst he; exact hk
  · exact h.elim

theorem Does.mono {P : Program} {ρ : Operand → Value} {o : Oper} {w : World} {K K' : Value → World → Prop} (h : Does P ρ o w K) (hk : ∀ v w', K v w' → K' v w') : Does P ρ o w K' := by
  unfold Does at *
  split at h
  · exact hk _ _ h
  · exact hk _ _ h
  · exact Calls.mono h fun e w'' ⟨v, he, h⟩ => ⟨v, he, hk _ _ h⟩
  · exact h.elim

theorem Does.ok {P : Program} {ρ : Operand → Value} {o : Oper} {w w' : World} {v : Value} {K : Value → World → Prop} (hr : (execOp ρ o).run P w = .ok (.value v) w') (h : K v w') : Does P ρ o w K := by
  unfold Does; rw [hr]; exact h

theorem Does.call {P : Program} {ρ : Operand → Value} {o : Oper} {w w' : World} {f : FuncId} {args : Array Value} {K : Value → World → Prop} {R : Ending → World → Prop} (hr : (execOp ρ o).run P w = .ok (.enter f args) w')
    (hc : Calls P f args w' R) (h : ∀ e w'', R e w'' → ∃ v, e = .returned v ∧ K v w'') : Does P ρ o w K := by
  unfold Does; rw [hr]; exact hc.mono h

/-- The values of slots, as operands see them. -/
def slotEval (σ : Nat → Value) : Operand → Value
  | .tmp t => σ t
  | .const v => v
  | .global g => .pointer (some ⟨g, 0, none⟩)
  | .func f => .func (.func f) #[] #[]

theorem Act.eval_slots (a : Act) : a.eval = slotEval fun t => a.tmps.getD t undef := by
  funext x; cases x <;> rfl

/-- The slot that operation i writes. -/
def dstOf (ops : List Oper) (i : Nat) : Nat := (((ops[i]?).bind (·.dst)).getD 0)

/-- Which bool a value is. -/
def asB : Value → Option Bool
  | .bool b => some b
  | _ => none

def wantedBy (ops : List Oper) (σ : Nat → Value) (o : Oper) : Bool :=
  match o.guard with
  | none => true
  | some (j, want) => asB (σ (dstOf ops j)) == some want

/-- Edges point backwards; each operation has a slot of its own; a guard is among the edges. -/
def factsOk (ops : List Oper) (n : Nat) : Bool :=
  (ops.zipIdx.all fun (o, i) => o.after.toList.all (fun e => !Region.binds .any e || decide (e.on < i)) && (match o.dst with | some d => decide (d < n) | none => false) &&
    (match o.guard with | none => true | some (j, _) => decide (j < ops.length)) &&
    (match o.op with | .select .. => false | _ => true)) &&
  decide ((ops.map (·.dst)).Nodup)

/-- All slots of a region written, in the order of the text. -/
def putAll (ops : List Oper) (vs : List Value) (a : Act) : Act :=
  (ops.zip vs).foldl (fun a p => a.put p.1.dst p.2) a

theorem putAll_size (l : List (Oper × Value)) : ∀ a : Act, (l.foldl (fun a p => a.put p.1.dst p.2) a).tmps.size = a.tmps.size := by
  induction l with
  | nil => intro a; rfl
  | cons p l ih => intro a; rw [List.foldl_cons, ih]; cases h : p.1.dst <;> simp [Act.put, h]

theorem putAll_defers (l : List (Oper × Value)) : ∀ a : Act, (l.foldl (fun a p => a.put p.1.dst p.2) a).defers = a.defers := by
  induction l with
  | nil => intro a; rfl
  | cons p l ih => intro a; rw [List.foldl_cons, ih]; cases h : p.1.dst <;> simp [Act.put, h]

/-- A state that agrees with another one but for a region's slots is that one with these slots written. -/
theorem putAll_eq (ops : List Oper) (a a0 : Act) (hs : a.tmps.size = a0.tmps.size) (hd : a.defers = a0.defers) :
    ∀ (l : List Oper), (∀ t, (l.all fun o => o.dst != some t) = true → a.tmps[t]? = a0.tmps[t]?) →
      (l.zip (l.map fun o => a.tmps.getD ((o.dst).getD 0) undef)).foldl (fun a p => a.put p.1.dst p.2) a0 = a := by
  have key : ∀ (l : List Oper) (b : Act), b.tmps.size = a.tmps.size → b.defers = a.defers → (∀ t, (l.all fun o => o.dst != some t) = true → a.tmps[t]? = b.tmps[t]?) →
      (l.zip (l.map fun o => a.tmps.getD ((o.dst).getD 0) undef)).foldl (fun a p => a.put p.1.dst p.2) b = a := by
    intro l
    induction l with
    | nil =>
      intro b hbs hbd h
      have : b.tmps = a.tmps := by
        apply Array.ext_getElem?
        intro i
        exact (h i rfl).symm
      cases a; cases b; simp_all
    | cons o l ih =>
      intro b hbs hbd h
      simp only [List.map_cons, List.zip_cons_cons, List.foldl_cons]
      refine ih _ ?_ ?_ ?_
      · cases hdst : o.dst <;> simp [Act.put, hbs]
      · cases hdst : o.dst <;> simp [Act.put, hbd]
      · intro t ht
        cases hdst : o.dst with
        | none => simp only [Act.put]; exact h t (by simp [List.all_cons, hdst] at ht ⊢; exact ht)
        | some d =>
          simp only [Act.put, Option.getD_some]
          by_cases htd : d = t
          · subst htd
            by_cases hlt : @LT.lt Nat _ d b.tmps.size
            · rw [Array.getElem?_setIfInBounds_self_of_lt hlt]
              simp [Array.getElem?_eq_getElem (hbs ▸ hlt)]
            · have h1 : a.tmps.size ≤ d := by omega
              have h2 : (b.tmps.setIfInBounds d (a.tmps.getD d undef)).size ≤ d := by rw [Array.size_setIfInBounds]; omega
              rw [Array.getElem?_eq_none h1, Array.getElem?_eq_none h2]
          · rw [Array.getElem?_setIfInBounds_ne htd]
            exact h t (by simp [List.all_cons, hdst] at ht ⊢; exact ⟨fun e => htd e, ht⟩)
  intro l h
  exact key l a0 (by omega) hd.symm h

theorem exists_unlisted : ∀ (listed : Array Bool), (listed.toList.countP (· == true)) < listed.size → ∃ i, i < listed.size ∧ listed.getD i true = false ∧ ∀ j, j < i → listed.getD j false = true := by
  intro listed h
  by_cases hex : ∃ i, i < listed.size ∧ listed.getD i true = false
  · obtain ⟨i, hi⟩ := hex
    have : ∀ n, ∀ i, i ≤ n → (i < listed.size ∧ listed.getD i true = false) → ∃ i, i < listed.size ∧ listed.getD i true = false ∧ ∀ j, j < i → listed.getD j false = true := by
      intro n
      induction n with
      | zero => intro i hi h; exact ⟨i, h.1, h.2, fun j hj => by omega⟩
      | succ n ih =>
        intro i hi h
        by_cases hall : ∀ j, j < i → listed.getD j false = true
        · exact ⟨i, h.1, h.2, hall⟩
        · have ⟨j, hj⟩ := Classical.not_forall.1 hall
          have ⟨hji, hjf⟩ := Classical.not_imp.1 hj
          refine ih j (by omega) ⟨by omega, ?_⟩
          have hlt : j < listed.size := by omega
          simp only [Array.getD_eq_getD_getElem?, Array.getElem?_eq_getElem hlt, Option.getD_some] at hjf ⊢
          simpa using hjf
    exact this i i (Nat.le_refl _) hi
  · exfalso
    have hall : ∀ b ∈ listed.toList, (b == true) = true := by
      intro b hb
      obtain ⟨i, hi, rfl⟩ := List.getElem_of_mem hb
      cases hbi : listed.toList[i] with
      | true => rfl
      | false =>
        refine absurd ⟨i, by simpa using hi, ?_⟩ hex
        have hlt : i < listed.size := by simpa using hi
        simp only [Array.getD_eq_getD_getElem?, Array.getElem?_eq_getElem hlt, Option.getD_some]
        simpa using hbi
    have h3 := List.countP_eq_length.2 hall
    rw [Array.length_toList] at h3
    omega

theorem count_set (listed : Array Bool) (i : Nat) (hi : i < listed.size) (h : listed.getD i true = false) : (listed.setIfInBounds i true).toList.countP (· == true) = listed.toList.countP (· == true) + 1 := by
  have hb : listed[i] = false := by simpa [Array.getD_eq_getD_getElem?, Array.getElem?_eq_getElem hi] using h
  have hl : i < listed.toList.length := by simpa using hi
  have e : (listed.setIfInBounds i true).toList = listed.toList.set i true := by simp
  rw [e, List.countP_set hl]
  simp [hb]


section
variable {P : Program} {ops : List Oper} {a0 : Act} {w0 : World} {Q : Exit → Act → World → Prop}

theorem factsOk_spec {n : Nat} (h : factsOk ops n = true) : ∀ i o, ops[i]? = some o → (∀ e ∈ o.after.toList, Region.binds .any e = true → e.on < i) ∧ (∃ d, o.dst = some d ∧ d < n) ∧ (∀ j b, o.guard = some (j, b) → j < ops.length) := by
  intro i o ho
  simp only [factsOk, Bool.and_eq_true] at h
  have h1 := List.all_eq_true.1 h.1 (o, i) (by rw [List.mem_zipIdx_iff_getElem?]; simpa using ho)
  simp only [Bool.and_eq_true] at h1
  obtain ⟨⟨⟨h1, h2⟩, h3⟩, _⟩ := h1
  refine ⟨fun e he hb => ?_, ?_, ?_⟩
  · have := List.all_eq_true.1 h1 e he
    simpa [hb] using this
  · cases hd : o.dst with
    | none => simp [hd] at h2
    | some d => exact ⟨d, rfl, by simpa [hd] using h2⟩
  · intro j b hg
    simpa [hg] using h3

theorem factsOk_inj {n : Nat} (h : factsOk ops n = true) {i j : Nat} {o o' : Oper} (hi : ops[i]? = some o) (hj : ops[j]? = some o') (hd : o.dst = o'.dst) : i = j := by
  simp only [factsOk, Bool.and_eq_true, decide_eq_true_eq] at h
  have hn := h.2
  have hli := (List.getElem?_eq_some_iff.1 hi)
  have hlj := (List.getElem?_eq_some_iff.1 hj)
  obtain ⟨hi1, hi2⟩ := hli
  obtain ⟨hj1, hj2⟩ := hlj
  rcases Nat.lt_trichotomy i j with h | h | h
  · exact absurd (by rw [List.getElem_map, List.getElem_map, hi2, hj2, hd]) (List.pairwise_iff_getElem.1 hn i j (by simpa using hi1) (by simpa using hj1) h)
  · exact h
  · exact absurd (by rw [List.getElem_map, List.getElem_map, hi2, hj2, hd]) (List.pairwise_iff_getElem.1 hn j i (by simpa using hj1) (by simpa using hi1) h)


def upd {α : Type} (f : Nat → α) (i : Nat) (x : α) : Nat → α := fun j => if j = i then x else f j

/-- What holds in the midst of a region. -/
structure MidInv (ops : List Oper) (I : (Nat → Bool) → (Nat → Value) → World → Prop) (a0 : Act) (listed : Array Bool) (a : Act) (w : World) : Prop where
  len : listed.size = ops.length
  size : a.tmps.size = a0.tmps.size
  defers : a.defers = a0.defers
  old : ∀ t, (ops.all fun o => o.dst != some t) = true → a.tmps[t]? = a0.tmps[t]?
  inv : I (fun i => listed.getD i false) (fun t => a.tmps.getD t undef) w

theorem wpAny_inv (I : (Nat → Bool) → (Nat → Value) → World → Prop) (hok : factsOk ops a0.tmps.size = true)
    (hstep : ∀ i o, ops[i]? = some o → ∀ (L : Nat → Bool) (σ : Nat → Value) (w : World), L i = false → (∀ e ∈ o.after.toList, Region.binds .any e = true → L e.on = true) →
      (∀ t, (ops.all fun o => o.dst != some t) = true → σ t = a0.tmps.getD t undef) → I L σ w →
      match wantedBy ops σ o with
      | true => Does P (slotEval σ) o w fun v w' => I (upd L i true) (upd σ (dstOf ops i) v) w'
      | false => I (upd L i true) (upd σ (dstOf ops i) undef) w)
    (hpost : ∀ (σ : Nat → Value) (L : Nat → Bool) (w : World), (∀ i, i < ops.length → L i = true) → (∀ t, (ops.all fun o => o.dst != some t) = true → σ t = a0.tmps.getD t undef) → I L σ w → Q .normal (putAll ops (ops.map fun o => σ ((o.dst).getD 0)) a0) w) :
    ∀ (fuel : Nat) (listed : Array Bool) (a : Act) (w : World), MidInv ops I a0 listed a w → listed.toList.countP (· == true) + fuel = ops.length →
      wpAny P .any ops.toArray Q fuel listed a w := by
  have fin : ∀ (listed : Array Bool) (a : Act) (w : World), MidInv ops I a0 listed a w → (∀ i, i < ops.length → listed.getD i false = true) → Q .normal a w := by
    intro listed a w hm hall
    have he : putAll ops (ops.map fun o => a.tmps.getD ((o.dst).getD 0) undef) a0 = a := by
      unfold putAll
      exact putAll_eq ops a a0 hm.size hm.defers ops hm.old
    have := hpost (fun t => a.tmps.getD t undef) (fun i => listed.getD i false) w hall (fun t ht => by simp only [Array.getD_eq_getD_getElem?, hm.old t ht]) hm.inv
    rwa [he] at this
  intro fuel
  induction fuel with
  | zero =>
    intro listed a w hm hc
    have hall : ∀ i, i < ops.length → listed.getD i false = true := by
      intro i hi
      rw [← hm.len] at hi
      have h1 : listed.toList.countP (· == true) = listed.toList.length := by simp [hm.len]; simpa using hc
      have h2 := List.countP_eq_length.1 h1
      have h3 := h2 (listed.toList[i]'(by simpa using hi)) (List.getElem_mem _)
      simp only [Array.getD_eq_getD_getElem?, Array.getElem?_eq_getElem hi, Option.getD_some]
      simpa using h3
    refine ⟨?_, fin listed a w hm hall⟩
    cases hr : Region.ready .any ops.toArray listed with
    | nil => rfl
    | cons i rest =>
      have hmem : i ∈ Region.ready .any ops.toArray listed := by rw [hr]; exact List.mem_cons_self ..
      obtain ⟨h0, o, ho, _⟩ := mem_ready.1 hmem
      have hi : i < ops.length := by simpa using (Array.getElem?_eq_some_iff.1 ho).1
      have h1 := hall i hi
      have hlt : i < listed.size := by rw [hm.len]; exact hi
      simp only [Array.getD_eq_getD_getElem?, Array.getElem?_eq_getElem hlt, Option.getD_some] at h0 h1
      rw [h0] at h1; cases h1
  | succ fuel ih =>
    intro listed a w hm hc
    have hex : ∃ i, i < listed.size ∧ listed.getD i true = false ∧ ∀ j, j < i → listed.getD j false = true :=
      exists_unlisted listed (by rw [hm.len]; omega)
    refine ⟨fun hr => ?_, fun i hi => ?_⟩
    · exfalso
      obtain ⟨i, hi, hf, hlow⟩ := hex
      have hio : i < ops.length := by rw [← hm.len]; exact hi
      have ho : ops[i]? = some ops[i] := List.getElem?_eq_getElem hio
      have : i ∈ Region.ready .any ops.toArray listed := by
        refine mem_ready.2 ⟨hf, ops[i], by simp, fun e he hb => hlow _ ?_⟩
        exact (factsOk_spec hok i _ ho).1 e (by simpa using he) hb
      rw [hr] at this
      cases this
    · obtain ⟨h0, o, ho, hedges⟩ := mem_ready.1 hi
      have ho' : ops[i]? = some o := by simpa using ho
      obtain ⟨_, ⟨d, hd, hdn⟩, hgj⟩ := factsOk_spec hok i o ho'
      have hil : i < listed.size := by rw [hm.len]; exact (List.getElem?_eq_some_iff.1 ho').1
      have hs := hstep i o ho' (fun i => listed.getD i false) (fun t => a.tmps.getD t undef) w
        (by simp only [Array.getD_eq_getD_getElem?, Array.getElem?_eq_getElem hil, Option.getD_some] at h0 ⊢; exact h0)
        (fun e he hb => hedges e (by simpa using he) hb) (fun t ht => by simp only [Array.getD_eq_getD_getElem?, hm.old t ht]) hm.inv
      have hwant : Region.wanted o (yielded ops.toArray a.tmps) = wantedBy ops (fun t => a.tmps.getD t undef) o := by
        unfold Region.wanted wantedBy
        cases hg : o.guard with
        | none => rfl
        | some gw =>
          obtain ⟨j, want⟩ := gw
          simp only
          congr 1
          have hj := hgj j want hg
          have hoj : ops[j]? = some ops[j] := List.getElem?_eq_getElem hj
          obtain ⟨_, ⟨dj, hdj, hdjn⟩, _⟩ := factsOk_spec hok j _ hoj
          unfold yielded dstOf
          simp only [List.getElem?_toArray, hoj, Option.bind_some, hdj, Option.getD_some, Array.getD_eq_getD_getElem?]
          have : dj < a.tmps.size := by rw [hm.size]; exact hdjn
          simp only [Array.getElem?_eq_getElem this, Option.getD_some]
          cases a.tmps[dj] <;> rfl
      have hdst : dstOf ops i = d := by simp [dstOf, ho', hd]
      have hL : (fun j => (listed.setIfInBounds i true).getD j false) = upd (fun j => listed.getD j false) i true := by
        funext j
        by_cases hij : j = i
        · subst hij
          simp [upd, hil]
        · simp only [upd, if_neg hij]
          exact getD_set_ne false (fun e => hij e.symm)
      have hσ : ∀ v, (fun t => (a.put o.dst v).tmps.getD t undef) = upd (fun t => a.tmps.getD t undef) d v := by
        intro v
        funext t
        by_cases htd : t = d
        · subst htd
          have hlt : @LT.lt Nat _ t a.tmps.size := by rw [hm.size]; exact hdn
          simp [upd, hd, Act.put, hlt]
        · simp only [upd, if_neg htd, hd, Act.put, Array.getD_eq_getD_getElem?]
          rw [Array.getElem?_setIfInBounds_ne (fun e => htd e.symm)]
      have next : ∀ v w', I (upd (fun j => listed.getD j false) i true) (upd (fun t => a.tmps.getD t undef) d v) w' → wpAny P .any ops.toArray Q fuel (listed.setIfInBounds i true) (a.put o.dst v) w' := by
        intro v w' hI
        refine ih _ _ _ ⟨?_, ?_, ?_, ?_, ?_⟩ ?_
        · simp [hm.len]
        · simp [Act.put, hd, hm.size]
        · simp [Act.put, hd, hm.defers]
        · intro t ht
          have hne : d ≠ t := by
            intro e
            have := List.all_eq_true.1 ht o (List.mem_of_getElem? ho')
            simp [hd, e] at this
          simp only [hd, Act.put, Array.getElem?_setIfInBounds_ne hne]
          exact hm.old t ht
        · rw [hL, hσ]; exact hI
        · rw [count_set listed i hil h0]; omega
      unfold wpOp
      simp only [ho]
      rw [hwant]
      rw [hdst] at hs
      cases hwb : wantedBy ops (fun t => a.tmps.getD t undef) o with
      | false =>
        rw [hwb] at hs
        simp only [Bool.false_eq_true, if_false]
        exact next undef w hs
      | true =>
        rw [hwb] at hs
        simp only [if_true]
        refine .inl (Does.wp ?_)
        rw [Act.eval_slots]
        exact Does.mono hs fun v w' hI => next v w' hI

/-- A region that draws its order, by an invariant. -/
theorem wp_region_inv {id : Nat} (hm : P.follows .mixedOrders = true) (I : (Nat → Bool) → (Nat → Value) → World → Prop) (hok : factsOk ops a0.tmps.size = true)
    (hstep : ∀ i o, ops[i]? = some o → ∀ (L : Nat → Bool) (σ : Nat → Value) (w : World), L i = false → (∀ e ∈ o.after.toList, Region.binds .any e = true → L e.on = true) →
      (∀ t, (ops.all fun o => o.dst != some t) = true → σ t = a0.tmps.getD t undef) → I L σ w →
      match wantedBy ops σ o with
      | true => Does P (slotEval σ) o w fun v w' => I (upd L i true) (upd σ (dstOf ops i) v) w'
      | false => I (upd L i true) (upd σ (dstOf ops i) undef) w)
    (h0 : I (fun _ => false) (fun t => a0.tmps.getD t undef) w0.drew)
    (hpost : ∀ (σ : Nat → Value) (L : Nat → Bool) (w : World), (∀ i, i < ops.length → L i = true) → (∀ t, (ops.all fun o => o.dst != some t) = true → σ t = a0.tmps.getD t undef) → I L σ w → Q .normal (putAll ops (ops.map fun o => σ ((o.dst).getD 0)) a0) w) :
    (Code.region id ops.toArray true).wp P Q a0 w0 := by
  refine wp_region_any hm ?_
  refine wpAny_inv I hok hstep hpost _ _ _ _ ⟨?_, rfl, rfl, fun _ _ => rfl, ?_⟩ ?_
  · simp
  · have : (fun i => (Array.replicate ops.toArray.size false).getD i false) = fun _ => false := by
      funext i
      simp only [Array.getD_eq_getD_getElem?, Array.getElem?_replicate]
      split <;> rfl
    rw [this]
    exact h0
  · simp
end

/-! ### Facts for each operation -/
/-- The facts that the edges name. -/
def Known (ops : List Oper) (V : Nat → Value → World → Prop) (σ : Nat → Value) (w : World) : List Edge → Prop
  | [] => True
  | e :: rest => (match Region.binds .any e with | true => V e.on (σ (dstOf ops e.on)) w | false => True) ∧ Known ops V σ w rest

theorem Known.of_all {ops : List Oper} {V : Nat → Value → World → Prop} {σ : Nat → Value} {w : World} : ∀ (l : List Edge),
    (∀ e ∈ l, Region.binds .any e = true → V e.on (σ (dstOf ops e.on)) w) → Known ops V σ w l
  | [], _ => trivial
  | e :: rest, h => ⟨by split <;> rename_i hb <;> first | exact h e (List.mem_cons_self ..) hb | trivial, Known.of_all rest fun e he hb => h e (List.mem_cons_of_mem _ he) hb⟩

/-- One operation's own step. -/
def StepFact (P : Program) (ops : List Oper) (E : World → World → Prop) (V : Nat → Value → World → Prop) (a0 : Act) (w0 : World) (i : Nat) (o : Oper) : Prop :=
  ∀ (σ : Nat → Value) (w : World), E w0 w → (∀ t, (ops.all fun o => o.dst != some t) = true → σ t = a0.tmps.getD t undef) → Known ops V σ w o.after.toList →
    match wantedBy ops σ o with
    | true => Does P (slotEval σ) o w fun v w' => E w w' ∧ V i v w'
    | false => V i undef w

def StepFacts (P : Program) (ops : List Oper) (E : World → World → Prop) (V : Nat → Value → World → Prop) (a0 : Act) (w0 : World) : Nat → List Oper → Prop
  | _, [] => True
  | i, o :: rest => StepFact P ops E V a0 w0 i o ∧ StepFacts P ops E V a0 w0 (i + 1) rest

theorem StepFacts.at {P : Program} {ops : List Oper} {E : World → World → Prop} {V : Nat → Value → World → Prop} {a0 : Act} {w0 : World} :
    ∀ (l : List Oper) (k : Nat), StepFacts P ops E V a0 w0 k l → ∀ i o, l[i]? = some o → StepFact P ops E V a0 w0 (k + i) o
  | [], _, _, i, o, h => by simp at h
  | x :: rest, k, hs, i, o, h => by
    cases i with
    | zero => simp at h; subst h; exact hs.1
    | succ i =>
      have := StepFacts.at rest (k + 1) hs.2 i o (by simpa using h)
      rwa [Nat.add_assoc, Nat.add_comm 1 i] at this


def AllFacts (V : Nat → Value → World → Prop) (w : World) : Nat → List Value → Prop
  | _, [] => True
  | i, v :: vs => V i v w ∧ AllFacts V w (i + 1) vs

theorem AllFacts.of_all {V : Nat → Value → World → Prop} {w : World} : ∀ (vs : List Value) (k : Nat), (∀ i v, vs[i]? = some v → V (k + i) v w) → AllFacts V w k vs
  | [], _, _ => trivial
  | v :: vs, k, h => ⟨by simpa using h 0 v rfl, AllFacts.of_all vs (k + 1) fun i v hv => by have := h (i + 1) v (by simpa using hv); rwa [Nat.add_assoc, Nat.add_comm 1 i]⟩

section
variable {P : Program} {ops : List Oper} {E : World → World → Prop} {V : Nat → Value → World → Prop} {a0 : Act} {w0 : World} {Q : Exit → Act → World → Prop}

/-- A region that draws its order, by a fact for each operation that lives on under E. -/
theorem wp_region_facts {id : Nat} (hm : P.follows .mixedOrders = true) (E : World → World → Prop) (V : Nat → Value → World → Prop)
    (hrefl : ∀ w, E w w) (htr : ∀ a b c, E a b → E b c → E a c) (hV : ∀ i v w w', E w w' → V i v w → V i v w')
    (hok : factsOk ops a0.tmps.size = true) (hstep : StepFacts P ops E V a0 w0.drew 0 ops)
    (hpost : ∀ vs : List Value, vs.length = ops.length → ∀ w, E w0.drew w → AllFacts V w 0 vs → Q .normal (putAll ops vs a0) w) :
    (Code.region id ops.toArray true).wp P Q a0 w0 := by
  refine wp_region_inv hm (fun L σ w => E w0.drew w ∧ ∀ i, i < ops.length → L i = true → V i (σ (dstOf ops i)) w) hok ?_ ⟨hrefl _, fun i _ h => by cases h⟩ ?_
  · intro i o ho L σ w hLi hedges hold ⟨hE, hF⟩
    have hi : i < ops.length := (List.getElem?_eq_some_iff.1 ho).1
    have hs := StepFacts.at ops 0 hstep i o ho
    rw [Nat.zero_add] at hs
    have hk : Known ops V σ w o.after.toList := Known.of_all _ fun e he hb => by
      have := (factsOk_spec hok i o ho).1 e he hb
      exact hF _ (by omega) (hedges e he hb)
    have hs := hs σ w hE hold hk
    have next : ∀ v w', E w w' → V i v w' → E w0.drew w' ∧ ∀ j, j < ops.length → upd L i true j = true → V j (upd σ (dstOf ops i) v (dstOf ops j)) w' := by
      intro v w' hE' hv
      refine ⟨htr _ _ _ hE hE', fun j hj hL => ?_⟩
      by_cases hij : j = i
      · subst hij; simp only [upd, if_true]; exact hv
      · have hoj : ops[j]? = some ops[j] := List.getElem?_eq_getElem hj
        have hne : dstOf ops j ≠ dstOf ops i := by
          intro e
          obtain ⟨_, ⟨di, hdi, _⟩, _⟩ := factsOk_spec hok i _ ho
          obtain ⟨_, ⟨dj, hdj, _⟩, _⟩ := factsOk_spec hok j _ hoj
          have e' : dj = di := by simpa [dstOf, hoj, ho, hdi, hdj] using e
          exact hij (factsOk_inj hok hoj ho (by rw [hdi, hdj, e']))
        simp only [upd, if_neg hij] at hL
        simp only [upd, if_neg hne]
        exact hV _ _ _ _ hE' (hF j hj hL)
    cases hwb : wantedBy ops σ o with
    | false => rw [hwb] at hs; exact next undef w (hrefl w) hs
    | true => rw [hwb] at hs; exact Does.mono hs fun v w' h => next v w' h.1 h.2
  · intro σ L w hall hold ⟨hE, hF⟩
    refine hpost _ (by simp) w hE (AllFacts.of_all _ 0 fun i v hv => ?_)
    rw [List.getElem?_map] at hv
    cases ho : ops[i]? with
    | none => rw [ho] at hv; simp at hv
    | some o =>
      rw [ho] at hv
      simp only [Option.map_some, Option.some.injEq] at hv
      subst hv
      have hi : i < ops.length := (List.getElem?_eq_some_iff.1 ho).1
      have := hF i hi (hall i hi)
      simpa [dstOf, ho] using this
end

end Go.Proofs.Ytmbjebdkhcpclaa
