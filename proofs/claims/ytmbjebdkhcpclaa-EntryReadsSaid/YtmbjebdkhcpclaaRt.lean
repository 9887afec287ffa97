/-
  Rules for a region that draws its order and whose last operations (stores) come in their order behind all others. After Rg, Rf.
-/
import Derived.Test.YtmbjebdkhcpclaaRf
import Derived.StillTail
set_option linter.unusedSimpArgs false
set_option linter.unusedVariables false
namespace Go.Proofs.Ytmbjebdkhcpclaa
open Go.RowKit

/-- The operations from n on come in their order behind all others. -/
def tailOk (ops : List Oper) (n : Nat) : Bool :=
  decide (n < ops.length) && Region.sinkB .any ops.toArray n && Region.chainB .any ops.toArray n && Region.seqB .any ops.toArray (ops.length - n) n ((List.range ops.length).map fun i => decide (i < n)).toArray

section
variable {P : Program} {ops : List Oper} {a0 : Act} {w0 : World} {Q : Exit → Act → World → Prop}

theorem take_get {n i : Nat} (h : i < n) : (ops.take n)[i]? = ops[i]? := by simp [h]
theorem take_get' {n i : Nat} {o : Oper} (h : (ops.take n)[i]? = some o) : i < n ∧ ops[i]? = some o := by
  have h1 := (List.getElem?_eq_some_iff.1 h).1
  rw [List.length_take] at h1
  exact ⟨by omega, by rw [← take_get (ops := ops) (n := n) (by omega)]; exact h⟩
theorem dst_take {n i : Nat} (h : i < n) : dstOf (ops.take n) i = dstOf ops i := by unfold dstOf; rw [take_get h]

/-- What holds in the midst of a region, while the head runs. -/
structure TMidInv (ops : List Oper) (n : Nat) (I : (Nat → Bool) → (Nat → Value) → World → Prop) (a0 : Act) (listed : Array Bool) (a : Act) (w : World) : Prop where
  head : HeadInv .any ops.toArray n listed
  size : a.tmps.size = a0.tmps.size
  defers : a.defers = a0.defers
  old : ∀ t, ((ops.take n).all fun o => o.dst != some t) = true → a.tmps[t]? = a0.tmps[t]?
  inv : I (fun i => listed.getD i false) (fun t => a.tmps.getD t undef) w

theorem wpAny_inv_tail (n : Nat) (I : (Nat → Bool) → (Nat → Value) → World → Prop) (ht : tailOk ops n = true) (hok : factsOk (ops.take n) a0.tmps.size = true)
    (hstep : ∀ i o, (ops.take n)[i]? = some o → ∀ (L : Nat → Bool) (σ : Nat → Value) (w : World), L i = false → (∀ e ∈ o.after.toList, Region.binds .any e = true → L e.on = true) →
      (∀ t, ((ops.take n).all fun o => o.dst != some t) = true → σ t = a0.tmps.getD t undef) → I L σ w →
      match wantedBy (ops.take n) σ o with
      | true => Does P (slotEval σ) o w fun v w' => I (upd L i true) (upd σ (dstOf (ops.take n) i) v) w'
      | false => I (upd L i true) (upd σ (dstOf (ops.take n) i) undef) w)
    (hpost : ∀ (σ : Nat → Value) (L : Nat → Bool) (w : World), (∀ i, i < n → L i = true) → (∀ t, ((ops.take n).all fun o => o.dst != some t) = true → σ t = a0.tmps.getD t undef) → I L σ w →
      wpList P ops.toArray Q (ops.drop n) (putAll (ops.take n) ((ops.take n).map fun o => σ ((o.dst).getD 0)) a0) w) :
    ∀ (fuel : Nat) (listed : Array Bool) (a : Act) (w : World), TMidInv ops n I a0 listed a w → listed.toList.countP (· == true) + fuel = n →
      wpAny P .any ops.toArray Q (fuel + (ops.length - n)) listed a w := by
  simp only [tailOk, Bool.and_eq_true, decide_eq_true_eq] at ht
  obtain ⟨⟨⟨hn, hsink⟩, hchain⟩, hseq⟩ := ht
  have tlen : (ops.take n).length = n := by rw [List.length_take]; omega
  have tailFree : ∀ {listed : Array Bool}, HeadInv .any ops.toArray n listed → ∀ t, n ≤ t → listed.getD t false = false := by
    intro listed hh t ht'
    rcases Nat.lt_or_ge t ops.length with h | h
    · have h1 := hh.tail t ht' (by simpa using h)
      exact getD_both h1
    · simp only [Array.getD_eq_getD_getElem?]
      rw [Array.getElem?_eq_none (by have := hh.size; simp at this; omega)]
      rfl
  intro fuel
  induction fuel with
  | zero =>
    intro listed a w hm hc
    have hsz : listed.size = ops.length := by have := hm.head.size; simpa using this
    have hall : ∀ i, i < n → listed.getD i false = true := by
      intro i hi
      -- the listed ones number n, and all lie below n
      have hcnt : listed.toList.countP (· == true) = n := by omega
      have hsplit : listed.toList = listed.toList.take n ++ listed.toList.drop n := (List.take_append_drop ..).symm
      have hdrop : (listed.toList.drop n).countP (· == true) = 0 := by
        rw [List.countP_eq_zero]
        intro x hx
        obtain ⟨j, hj, rfl⟩ := List.getElem_of_mem hx
        have hj' : n + j < listed.size := by simp at hj; omega
        have h1 := tailFree hm.head (n + j) (by omega)
        simp only [Array.getD_eq_getD_getElem?, Array.getElem?_eq_getElem hj', Option.getD_some] at h1
        simp [h1]
      rw [hsplit, List.countP_append, hdrop, Nat.add_zero] at hcnt
      have hlt : (listed.toList.take n).length = n := by rw [List.length_take]; simp; omega
      have h2 := List.countP_eq_length.1 (hcnt.trans hlt.symm)
      have hil : i < listed.size := by omega
      have h3 := h2 ((listed.toList.take n)[i]'(by omega)) (List.getElem_mem _)
      simp only [Array.getD_eq_getD_getElem?, Array.getElem?_eq_getElem hil, Option.getD_some]
      simpa using h3
    have hlisted : listed = ((List.range ops.length).map fun i => decide (i < n)).toArray := by
      apply Array.ext_getElem?
      intro i
      rcases Nat.lt_or_ge i ops.length with h | h
      · rw [Array.getElem?_eq_getElem (by omega)]
        have h1 : listed.getD i false = decide (i < n) := by
          rcases Nat.lt_or_ge i n with h2 | h2
          · rw [hall i h2, decide_eq_true h2]
          · rw [tailFree hm.head i h2, decide_eq_false (by omega)]
        simp only [Array.getD_eq_getD_getElem?, Array.getElem?_eq_getElem (show i < listed.size by omega), Option.getD_some] at h1
        rw [h1]
        simp [h]
      · rw [Array.getElem?_eq_none (by omega), Array.getElem?_eq_none (by simp; omega)]
    have he : putAll (ops.take n) ((ops.take n).map fun o => a.tmps.getD ((o.dst).getD 0) undef) a0 = a := by
      unfold putAll
      exact putAll_eq (ops.take n) a a0 hm.size hm.defers (ops.take n) hm.old
    have hp := hpost (fun t => a.tmps.getD t undef) (fun i => listed.getD i false) w hall (fun t ht => by simp only [Array.getD_eq_getD_getElem?, hm.old t ht]) hm.inv
    rw [he] at hp
    have hdl : (ops.drop n).length = ops.length - n := by simp
    rw [Nat.zero_add]
    have := wpAny_of_seq (md := .any) (ops := ops.toArray) (Q' := Q) (ops.drop n) n listed a w (fun j => by simp [List.getElem?_drop]) (by rw [hdl, hlisted]; exact hseq) hp
    rwa [hdl] at this
  | succ fuel ih =>
    intro listed a w hm hc
    have hsz : listed.size = ops.length := by have := hm.head.size; simpa using this
    have hex : ∃ i, i < n ∧ listed.getD i true = false ∧ ∀ j, j < i → listed.getD j false = true := by
      obtain ⟨i, hi, hf, hlow⟩ := exists_unlisted listed (by rw [hsz]; omega)
      rcases Nat.lt_or_ge i n with h | h
      · exact ⟨i, h, hf, hlow⟩
      · exfalso
        -- all of the head is listed: too many
        have h1 : (listed.toList.take n).countP (· == true) = n := by
          have hlt : (listed.toList.take n).length = n := by rw [List.length_take]; simp; omega
          have : (listed.toList.take n).countP (· == true) = (listed.toList.take n).length := by
            rw [List.countP_eq_length]
            intro x hx
            obtain ⟨j, hj, rfl⟩ := List.getElem_of_mem hx
            have hj' : j < n := by rw [hlt] at hj; exact hj
            have h2 := hlow j (by omega)
            have hjl : j < listed.size := by omega
            simp only [Array.getD_eq_getD_getElem?, Array.getElem?_eq_getElem hjl, Option.getD_some] at h2
            simp [h2]
          omega
        have h2 : listed.toList.countP (· == true) = (listed.toList.take n).countP (· == true) + (listed.toList.drop n).countP (· == true) := by
          conv => lhs; rw [← List.take_append_drop n listed.toList]
          rw [List.countP_append]
        omega
    rw [show fuel + 1 + (ops.length - n) = (fuel + (ops.length - n)) + 1 by omega]
    refine ⟨fun hr => ?_, fun i hi => ?_⟩
    · exfalso
      obtain ⟨i, hi, hf, hlow⟩ := hex
      have hio : i < ops.length := by omega
      have ho : ops[i]? = some ops[i] := List.getElem?_eq_getElem hio
      have : i ∈ Region.ready .any ops.toArray listed := by
        refine mem_ready.2 ⟨hf, ops[i], by simp, fun e he hb => hlow _ ?_⟩
        exact (factsOk_spec hok i _ ((take_get hi).trans ho)).1 e (by simpa using he) hb
      rw [hr] at this
      cases this
    · have hin : i < n := by
        rcases Nat.lt_or_ge i n with h | h
        · exact h
        · obtain ⟨j, hj, hf, _⟩ := hex
          exact absurd hi (tail_waits hsink hchain (by simpa using hn) hm.head _ j rfl hj hf i h)
      obtain ⟨h0, o, ho, hedges⟩ := mem_ready.1 hi
      have ho1 : ops[i]? = some o := by simpa using ho
      have ho' : (ops.take n)[i]? = some o := (take_get hin).trans ho1
      obtain ⟨_, ⟨d, hd, hdn⟩, hgj⟩ := factsOk_spec hok i o ho'
      have hil : i < listed.size := by rw [hsz]; omega
      have hs := hstep i o ho' (fun i => listed.getD i false) (fun t => a.tmps.getD t undef) w
        (by simp only [Array.getD_eq_getD_getElem?, Array.getElem?_eq_getElem hil, Option.getD_some] at h0 ⊢; exact h0)
        (fun e he hb => hedges e (by simpa using he) hb) (fun t ht => by simp only [Array.getD_eq_getD_getElem?, hm.old t ht]) hm.inv
      have hwant : Region.wanted o (yielded ops.toArray a.tmps) = wantedBy (ops.take n) (fun t => a.tmps.getD t undef) o := by
        unfold Region.wanted wantedBy
        cases hg : o.guard with
        | none => rfl
        | some gw =>
          obtain ⟨j, want⟩ := gw
          simp only
          congr 1
          have hj := hgj j want hg
          have hjn : j < n := by rw [tlen] at hj; exact hj
          have hoj : (ops.take n)[j]? = some (ops.take n)[j] := List.getElem?_eq_getElem hj
          have hoj1 : ops[j]? = some (ops.take n)[j] := (take_get hjn).symm.trans hoj
          obtain ⟨_, ⟨dj, hdj, hdjn⟩, _⟩ := factsOk_spec hok j _ hoj
          unfold yielded dstOf
          simp only [List.getElem?_toArray, hoj, hoj1, Option.bind_some, hdj, Option.getD_some, Array.getD_eq_getD_getElem?]
          have : dj < a.tmps.size := by rw [hm.size]; exact hdjn
          simp only [Array.getElem?_eq_getElem this, Option.getD_some]
          cases a.tmps[dj] <;> rfl
      have hdst : dstOf (ops.take n) i = d := by simp only [dstOf, ho', Option.bind_some, hd, Option.getD_some]
      have hL : (fun j => (listed.setIfInBounds i true).getD j false) = upd (fun j => listed.getD j false) i true := by
        funext j
        by_cases hij : j = i
        · subst hij
          simp [upd, hil]
        · simp only [upd, if_neg hij]
          exact getD_set_ne false (fun e => hij e.symm)
      have hσ : ∀ v, (fun t => (a.put o.dst v).tmps.getD t undef) = upd (fun t => a.tmps.getD t undef) d v := by
        intro v
        funext t
        by_cases htd : t = d
        · subst htd
          have hlt : @LT.lt Nat _ t a.tmps.size := by rw [hm.size]; exact hdn
          simp [upd, hd, Act.put, hlt]
        · simp only [upd, if_neg htd, hd, Act.put, Array.getD_eq_getD_getElem?]
          rw [Array.getElem?_setIfInBounds_ne (fun e => htd e.symm)]
      have next : ∀ v w', I (upd (fun j => listed.getD j false) i true) (upd (fun t => a.tmps.getD t undef) d v) w' → wpAny P .any ops.toArray Q (fuel + (ops.length - n)) (listed.setIfInBounds i true) (a.put o.dst v) w' := by
        intro v w' hI
        refine ih _ _ _ ⟨hm.head.set hi hin, ?_, ?_, ?_, ?_⟩ ?_
        · simp [Act.put, hd, hm.size]
        · simp [Act.put, hd, hm.defers]
        · intro t ht
          have hne : d ≠ t := by
            intro e
            have := List.all_eq_true.1 ht o (List.mem_of_getElem? ho')
            simp [hd, e] at this
          simp only [hd, Act.put, Array.getElem?_setIfInBounds_ne hne]
          exact hm.old t ht
        · rw [hL, hσ]; exact hI
        · rw [count_set listed i hil h0]; omega
      unfold wpOp
      simp only [ho]
      rw [hwant]
      rw [hdst] at hs
      cases hwb : wantedBy (ops.take n) (fun t => a.tmps.getD t undef) o with
      | false =>
        rw [hwb] at hs
        simp only [Bool.false_eq_true, if_false]
        exact next undef w hs
      | true =>
        rw [hwb] at hs
        simp only [if_true]
        refine .inl (Does.wp ?_)
        rw [Act.eval_slots]
        exact Does.mono hs fun v w' hI => next v w' hI

/-- The rule by an invariant of the head. -/
theorem wp_region_inv_tail {id : Nat} (n : Nat) (hm : P.follows .mixedOrders = true) (I : (Nat → Bool) → (Nat → Value) → World → Prop) (ht : tailOk ops n = true) (hok : factsOk (ops.take n) a0.tmps.size = true)
    (hstep : ∀ i o, (ops.take n)[i]? = some o → ∀ (L : Nat → Bool) (σ : Nat → Value) (w : World), L i = false → (∀ e ∈ o.after.toList, Region.binds .any e = true → L e.on = true) →
      (∀ t, ((ops.take n).all fun o => o.dst != some t) = true → σ t = a0.tmps.getD t undef) → I L σ w →
      match wantedBy (ops.take n) σ o with
      | true => Does P (slotEval σ) o w fun v w' => I (upd L i true) (upd σ (dstOf (ops.take n) i) v) w'
      | false => I (upd L i true) (upd σ (dstOf (ops.take n) i) undef) w)
    (h0 : I (fun _ => false) (fun t => a0.tmps.getD t undef) w0.drew)
    (hpost : ∀ (σ : Nat → Value) (L : Nat → Bool) (w : World), (∀ i, i < n → L i = true) → (∀ t, ((ops.take n).all fun o => o.dst != some t) = true → σ t = a0.tmps.getD t undef) → I L σ w →
      wpList P ops.toArray Q (ops.drop n) (putAll (ops.take n) ((ops.take n).map fun o => σ ((o.dst).getD 0)) a0) w) :
    (Code.region id ops.toArray true).wp P Q a0 w0 := by
  have hn : n < ops.length := by simp only [tailOk, Bool.and_eq_true, decide_eq_true_eq] at ht; exact ht.1.1.1
  refine wp_region_any hm ?_
  have H := wpAny_inv_tail (Q := Q) n I ht hok hstep hpost n (Array.replicate ops.toArray.size false) a0 w0.drew ⟨⟨by simp, fun j oj _ hl => (by rw [getD_replicate_false] at hl; cases hl), fun t _ ht => getD_in (by simpa using ht) (getD_replicate_false _ _)⟩, rfl, rfl, fun _ _ => rfl, ?_⟩ ?_
  · rw [show n + (ops.length - n) = ops.toArray.size by simp; omega] at H
    exact H
  · have : (fun i => (Array.replicate ops.toArray.size false).getD i false) = fun _ => false := by
      funext i
      simp only [Array.getD_eq_getD_getElem?, Array.getElem?_replicate]
      split <;> rfl
    rw [this]
    exact h0
  · simp
end

/-- A step that may be skipped. -/
def FactStepG (P : Program) (ops : List Oper) (D : List (List Nat)) (E : World → World → Prop) (V : List (List Value → World → Prop)) (a0 : Act) (w0 : World) (i : Nat) (o : Oper) : Prop :=
  ∀ (σ : Nat → Value) (w : World), E w0 w → Hold ops a0 σ → KnownF ops D V σ w o.after.toList →
    match wantedBy ops σ o with
    | true => Does P (slotEval σ) o w fun v w' => E w w' ∧ factOf V i (valsOf ops D (upd σ (dstOf ops i) v) i) w'
    | false => factOf V i (valsOf ops D (upd σ (dstOf ops i) undef) i) w
def FactStepsG (P : Program) (ops : List Oper) (D : List (List Nat)) (E : World → World → Prop) (V : List (List Value → World → Prop)) (a0 : Act) (w0 : World) : Nat → List Oper → Prop
  | _, [] => True
  | i, o :: rest => FactStepG P ops D E V a0 w0 i o ∧ FactStepsG P ops D E V a0 w0 (i + 1) rest
theorem FactStepsG.at {P : Program} {ops : List Oper} {D : List (List Nat)} {E : World → World → Prop} {V : List (List Value → World → Prop)} {a0 : Act} {w0 : World} :
    ∀ (l : List Oper) (k : Nat), FactStepsG P ops D E V a0 w0 k l → ∀ i o, l[i]? = some o → FactStepG P ops D E V a0 w0 (k + i) o
  | [], _, _, i, o, h => by simp at h
  | x :: rest, k, hs, i, o, h => by
    cases i with
    | zero => simp at h; subst h; exact hs.1
    | succ i =>
      have := FactStepsG.at rest (k + 1) hs.2 i o (by simpa using h)
      rwa [Nat.add_assoc, Nat.add_comm 1 i] at this
theorem factg_of {P : Program} {ops : List Oper} {D : List (List Nat)} {E : World → World → Prop} {V : List (List Value → World → Prop)} {a0 : Act} {w0 : World} {i : Nat} {o : Oper} (h : FactStep P ops D E V a0 w0 i o) : FactStepG P ops D E V a0 w0 i o := by
  intro σ w hE hold hk
  obtain ⟨hw, hd⟩ := h σ w hE hold hk
  rw [hw]
  exact hd
theorem factg_skip {P : Program} {ops : List Oper} {D : List (List Nat)} {E : World → World → Prop} {V : List (List Value → World → Prop)} {a0 : Act} {w0 : World} {i : Nat} {o : Oper}
    (h : ∀ (σ : Nat → Value) (w : World), E w0 w → Hold ops a0 σ → KnownF ops D V σ w o.after.toList → wantedBy ops σ o = false ∧ factOf V i (valsOf ops D (upd σ (dstOf ops i) undef) i) w) : FactStepG P ops D E V a0 w0 i o := by
  intro σ w hE hold hk
  obtain ⟨hw, hd⟩ := h σ w hE hold hk
  rw [hw]
  exact hd

/-- The blocks of these variables are unlike. -/
def Apart (A : List (Nat × Obj)) (ops : List Oper) (σ : Nat → Value) : Prop := ∀ x ∈ A, ∀ y ∈ A, x.1 < ops.length → y.1 < ops.length → x.1 ≠ y.1 → σ (dstOf ops x.1) ≠ σ (dstOf ops y.1)
section
variable {P : Program} {ops all : List Oper} {a0 : Act} {w0 : World} {Q : Exit → Act → World → Prop}
theorem wp_region_looks_tail {id : Nat} (n : Nat) (hm : P.follows .mixedOrders = true) (E : World → World → Prop) (D : List (List Nat)) (V : List (List Value → World → Prop))
    (hrefl : ∀ w, E w w) (htr : ∀ a b c, E a b → E b c → E a c) (hV : ∀ i vs w w', E w w' → factOf V i vs w → factOf V i vs w')
    (ht : tailOk all n = true) (hal : all.take n = ops) (hok : factsOk ops a0.tmps.size = true) (hlk : looksOk ops D = true) (hstep : FactStepsG P ops D E V a0 w0.drew 0 ops)
    (hpost : ∀ (σ : Nat → Value) (w : World), E w0.drew w → EndFacts ops D V σ w 0 ops → wpList P all.toArray Q (all.drop n) (putAll ops (ops.map fun o => σ ((o.dst).getD 0)) a0) w) :
    (Code.region id all.toArray true).wp P Q a0 w0 := by
  subst hal
  have looks : ∀ i o, (all.take n)[i]? = some o → ∀ j ∈ looksOf D i, j < (all.take n).length ∧ (j = i ∨ ∃ e ∈ o.after.toList, Region.binds .any e = true ∧ (e.on = j ∨ j ∈ looksOf D e.on)) := by
    intro i o ho j hj
    have h1 := List.all_eq_true.1 hlk (o, i) (by rw [List.mem_zipIdx_iff_getElem?]; simpa using ho)
    have h2 := List.all_eq_true.1 h1 j hj
    simp only [Bool.and_eq_true, decide_eq_true_eq, Bool.or_eq_true, beq_iff_eq] at h2
    refine ⟨h2.1, h2.2.imp _root_.id fun h => ?_⟩
    obtain ⟨e, he, hb⟩ := List.any_eq_true.1 h
    simp only [Bool.and_eq_true, Bool.or_eq_true, beq_iff_eq, List.contains_iff_mem] at hb
    exact ⟨e, he, hb.1, hb.2⟩
  refine wp_region_inv_tail n hm (fun L σ w => E w0.drew w ∧ (∀ i, i < (all.take n).length → L i = true → ∀ j ∈ looksOf D i, L j = true) ∧ ∀ i, i < (all.take n).length → L i = true → factOf V i (valsOf (all.take n) D σ i) w) ht hok ?_
    ⟨hrefl _, fun i _ h => (by cases h), fun i _ h => (by cases h)⟩ ?_
  · intro i o ho L σ w hLi hedges hold ⟨hE, hC, hF⟩
    have hi : i < (all.take n).length := (List.getElem?_eq_some_iff.1 ho).1
    have hs := FactStepsG.at (all.take n) 0 hstep i o ho
    rw [Nat.zero_add] at hs
    have hlt : ∀ e ∈ o.after.toList, Region.binds .any e = true → e.on < (all.take n).length := fun e he hb => by
      have := (factsOk_spec hok i o ho).1 e he hb
      omega
    have hk : KnownF (all.take n) D V σ w o.after.toList := KnownF.of_all _ fun e he hb => hF _ (hlt e he hb) (hedges e he hb)
    have hs := hs σ w hE hold hk
    suffices next : ∀ v w', E w w' → factOf V i (valsOf (all.take n) D (upd σ (dstOf (all.take n) i) v) i) w' → E w0.drew w' ∧ (∀ m, m < (all.take n).length → upd L i true m = true → ∀ j ∈ looksOf D m, upd L i true j = true) ∧ ∀ m, m < (all.take n).length → upd L i true m = true → factOf V m (valsOf (all.take n) D (upd σ (dstOf (all.take n) i) v) m) w' by
      cases hwb : wantedBy (all.take n) σ o with
      | true => rw [hwb] at hs; exact Does.mono hs fun v w' h => next v w' h.1 h.2
      | false => rw [hwb] at hs; exact next undef w (hrefl w) hs
    intro v w' hE' hv
    refine ⟨htr _ _ _ hE hE', fun m hm hL j hj => ?_, fun m hm hL => ?_⟩
    · by_cases hmi : m = i
      · subst hmi
        rcases (looks m o ho j hj).2 with rfl | ⟨e, he, hb, h⟩
        · simp [upd]
        · have hLe := hedges e he hb
          have : L j = true := by
            rcases h with rfl | h
            · exact hLe
            · exact hC _ (hlt e he hb) hLe j h
          by_cases hji : j = m
          · subst hji; simp [upd]
          · simp only [upd, if_neg hji]; exact this
      · simp only [upd, if_neg hmi] at hL
        have := hC m hm hL j hj
        by_cases hji : j = i
        · subst hji; simp [upd]
        · simp only [upd, if_neg hji]; exact this
    · by_cases hmi : m = i
      · subst hmi; exact hv
      · simp only [upd, if_neg hmi] at hL
        have hsame : valsOf (all.take n) D (upd σ (dstOf (all.take n) i) v) m = valsOf (all.take n) D σ m := by
          unfold valsOf
          refine List.map_congr_left fun j hj => ?_
          have hLj := hC m hm hL j hj
          have hji : j ≠ i := fun e => by subst e; rw [hLi] at hLj; cases hLj
          have hjl : j < (all.take n).length := (looks m (all.take n)[m] (List.getElem?_eq_getElem hm) j hj).1
          have hoj : (all.take n)[j]? = some (all.take n)[j] := List.getElem?_eq_getElem hjl
          have hne : dstOf (all.take n) j ≠ dstOf (all.take n) i := by
            intro e
            obtain ⟨_, ⟨di, hdi, _⟩, _⟩ := factsOk_spec hok i _ ho
            obtain ⟨_, ⟨dj, hdj, _⟩, _⟩ := factsOk_spec hok j _ hoj
            have e' : dj = di := by simp only [dstOf, hoj, ho, Option.bind_some, hdi, hdj, Option.getD_some] at e; exact e
            exact hji (factsOk_inj hok hoj ho (by rw [hdi, hdj, e']))
          simp only [upd, if_neg hne]
        rw [hsame]
        exact hV _ _ _ _ hE' (hF m hm hL)
  · intro σ L w hall hold ⟨hE, _, hF⟩
    exact hpost σ w hE (EndFacts.of_all (all.take n) 0 fun i hi => by rw [Nat.zero_add]; exact hF i hi (hall i (by rw [List.length_take] at hi; omega)))

theorem wp_region_lives_tail {id : Nat} (n : Nat) (hm : P.follows .mixedOrders = true) (E : World → World → Prop) (D : List (List Nat)) (V : List (SFact E))
    (hrefl : ∀ w, E w w) (htr : ∀ a b c, E a b → E b c → E a c)
    (ht : tailOk all n = true) (hal : all.take n = ops) (hok : factsOk ops a0.tmps.size = true) (hlk : looksOk ops D = true) (hstep : FactStepsG P ops D E (V.map (·.holds)) a0 w0.drew 0 ops)
    (hpost : ∀ (σ : Nat → Value) (w : World), E w0.drew w → EndFacts ops D (V.map (·.holds)) σ w 0 ops → wpList P all.toArray Q (all.drop n) (putAll ops (ops.map fun o => σ ((o.dst).getD 0)) a0) w) :
    (Code.region id all.toArray true).wp P Q a0 w0 := by
  refine wp_region_looks_tail n hm E D (V.map (·.holds)) hrefl htr (fun i vs w w' hE h => ?_) ht hal hok hlk hstep hpost
  unfold factOf at *
  rw [List.getElem?_map] at *
  cases hv : V[i]? with
  | none => trivial
  | some f => rw [hv] at h; exact f.lives _ _ _ hE h
theorem wp_region_looks_fresh {id : Nat} (n : Nat) (hm : P.follows .mixedOrders = true) (E : World → World → Prop) (D : List (List Nat)) (V : List (List Value → World → Prop))
    (hrefl : ∀ w, E w w) (htr : ∀ a b c, E a b → E b c → E a c) (A : List (Nat × Obj)) (hA : ∀ x ∈ A, ∀ o, ops[x.1]? = some o → o.guard = none ∧ ∀ ρ w, (execOp ρ o).run P w = .ok (.value (.pointer (some ⟨w.heap.size, 0, none⟩))) (w.alloc x.2)) (hEs : ∀ w w', E w w' → w.heap.size ≤ w'.heap.size) (hV : ∀ i vs w w', E w w' → factOf V i vs w → factOf V i vs w')
    (ht : tailOk all n = true) (hal : all.take n = ops) (hok : factsOk ops a0.tmps.size = true) (hlk : looksOk ops D = true) (hstep : FactStepsG P ops D E V a0 w0.drew 0 ops)
    (hpost : ∀ (σ : Nat → Value) (w : World), E w0.drew w → EndFacts ops D V σ w 0 ops → Apart A ops σ → wpList P all.toArray Q (all.drop n) (putAll ops (ops.map fun o => σ ((o.dst).getD 0)) a0) w) :
    (Code.region id all.toArray true).wp P Q a0 w0 := by
  subst hal
  have looks : ∀ i o, (all.take n)[i]? = some o → ∀ j ∈ looksOf D i, j < (all.take n).length ∧ (j = i ∨ ∃ e ∈ o.after.toList, Region.binds .any e = true ∧ (e.on = j ∨ j ∈ looksOf D e.on)) := by
    intro i o ho j hj
    have h1 := List.all_eq_true.1 hlk (o, i) (by rw [List.mem_zipIdx_iff_getElem?]; simpa using ho)
    have h2 := List.all_eq_true.1 h1 j hj
    simp only [Bool.and_eq_true, decide_eq_true_eq, Bool.or_eq_true, beq_iff_eq] at h2
    refine ⟨h2.1, h2.2.imp _root_.id fun h => ?_⟩
    obtain ⟨e, he, hb⟩ := List.any_eq_true.1 h
    simp only [Bool.and_eq_true, Bool.or_eq_true, beq_iff_eq, List.contains_iff_mem] at hb
    exact ⟨e, he, hb.1, hb.2⟩
  refine wp_region_inv_tail n hm (fun L σ w => E w0.drew w ∧ (∀ i, i < (all.take n).length → L i = true → ∀ j ∈ looksOf D i, L j = true) ∧ (∀ i, i < (all.take n).length → L i = true → factOf V i (valsOf (all.take n) D σ i) w) ∧ (∀ x ∈ A, x.1 < (all.take n).length → L x.1 = true → ∃ b, σ (dstOf (all.take n) x.1) = .pointer (some ⟨b, 0, none⟩) ∧ b < w.heap.size) ∧ ∀ x ∈ A, ∀ y ∈ A, x.1 < (all.take n).length → y.1 < (all.take n).length → x.1 ≠ y.1 → L x.1 = true → L y.1 = true → σ (dstOf (all.take n) x.1) ≠ σ (dstOf (all.take n) y.1)) ht hok ?_
    ⟨hrefl _, fun i _ h => (by cases h), fun i _ h => (by cases h), fun x _ _ h => (by cases h), fun x _ y _ _ _ _ h => (by cases h)⟩ ?_
  · intro i o ho L σ w hLi hedges hold ⟨hE, hC, hF, hB, hX⟩
    have hi : i < (all.take n).length := (List.getElem?_eq_some_iff.1 ho).1
    have hs := FactStepsG.at (all.take n) 0 hstep i o ho
    rw [Nat.zero_add] at hs
    have hlt : ∀ e ∈ o.after.toList, Region.binds .any e = true → e.on < (all.take n).length := fun e he hb => by
      have := (factsOk_spec hok i o ho).1 e he hb
      omega
    have hk : KnownF (all.take n) D V σ w o.after.toList := KnownF.of_all _ fun e he hb => hF _ (hlt e he hb) (hedges e he hb)
    have hs := hs σ w hE hold hk
    have dne : ∀ j, j < (all.take n).length → j ≠ i → dstOf (all.take n) j ≠ dstOf (all.take n) i := by
      intro j hj hij e
      have hoj : (all.take n)[j]? = some (all.take n)[j] := List.getElem?_eq_getElem hj
      obtain ⟨_, ⟨di, hdi, _⟩, _⟩ := factsOk_spec hok i _ ho
      obtain ⟨_, ⟨dj, hdj, _⟩, _⟩ := factsOk_spec hok j _ hoj
      have e' : dj = di := by simp only [dstOf, hoj, ho, Option.bind_some, hdi, hdj, Option.getD_some] at e; exact e
      exact hij (factsOk_inj hok hoj ho (by rw [hdi, hdj, e']))
    suffices next : ∀ v w', E w w' → factOf V i (valsOf (all.take n) D (upd σ (dstOf (all.take n) i) v) i) w' → (∀ x ∈ A, x.1 = i → v = .pointer (some ⟨w.heap.size, 0, none⟩) ∧ w.heap.size < w'.heap.size) →
        E w0.drew w' ∧ (∀ m, m < (all.take n).length → upd L i true m = true → ∀ j ∈ looksOf D m, upd L i true j = true) ∧ (∀ m, m < (all.take n).length → upd L i true m = true → factOf V m (valsOf (all.take n) D (upd σ (dstOf (all.take n) i) v) m) w') ∧
        (∀ x ∈ A, x.1 < (all.take n).length → upd L i true x.1 = true → ∃ b, upd σ (dstOf (all.take n) i) v (dstOf (all.take n) x.1) = .pointer (some ⟨b, 0, none⟩) ∧ b < w'.heap.size) ∧ ∀ x ∈ A, ∀ y ∈ A, x.1 < (all.take n).length → y.1 < (all.take n).length → x.1 ≠ y.1 → upd L i true x.1 = true → upd L i true y.1 = true → upd σ (dstOf (all.take n) i) v (dstOf (all.take n) x.1) ≠ upd σ (dstOf (all.take n) i) v (dstOf (all.take n) y.1) by
      by_cases hx : ∃ x ∈ A, x.1 = i
      · obtain ⟨x, hxA, rfl⟩ := hx
        obtain ⟨hg, hr⟩ := hA x hxA o ho
        have hr := hr (slotEval σ) w
        have hwb : wantedBy (all.take n) σ o = true := by simp [wantedBy, hg]
        rw [hwb] at hs ⊢
        simp only at hs ⊢
        unfold Does at hs
        rw [hr] at hs
        exact Does.ok hr (next _ _ hs.1 hs.2 fun y _ _ => ⟨rfl, by simp⟩)
      · have hno : ∀ v : Value, ∀ w' : World, ∀ x ∈ A, x.1 = i → v = .pointer (some ⟨w.heap.size, 0, none⟩) ∧ w.heap.size < w'.heap.size := fun v w' x hxA hxi => absurd ⟨x, hxA, hxi⟩ hx
        cases hwb : wantedBy (all.take n) σ o with
        | true => rw [hwb] at hs; exact Does.mono hs fun v w' h => next v w' h.1 h.2 (hno v w')
        | false => rw [hwb] at hs; exact next undef w (hrefl w) hs (hno undef w)
    intro v w' hE' hv hnew
    refine ⟨htr _ _ _ hE hE', fun m hm hL j hj => ?_, fun m hm hL => ?_, fun x hxA hxl hL => ?_, fun x hxA y hyA hxl hyl hxy hLx hLy => ?_⟩
    rotate_left 2
    · by_cases hxi : x.1 = i
      · obtain ⟨rfl, h2⟩ := hnew x hxA hxi
        exact ⟨_, by rw [hxi]; simp [upd], h2⟩
      · simp only [upd, if_neg hxi] at hL
        obtain ⟨b, h1, h2⟩ := hB x hxA hxl hL
        have := hEs _ _ hE'
        exact ⟨b, by simp only [upd, if_neg (dne _ hxl hxi)]; exact h1, by omega⟩
    · by_cases hxi : x.1 = i
      · have hyi : y.1 ≠ i := fun e => hxy (hxi.trans e.symm)
        simp only [upd, if_neg hyi] at hLy
        obtain ⟨b, h1, h2⟩ := hB y hyA hyl hLy
        obtain ⟨rfl, _⟩ := hnew x hxA hxi
        simp only [upd, if_neg (dne _ hyl hyi)]
        rw [hxi, if_pos rfl, h1]
        intro e
        injection e with e; injection e with e; injection e with e _ _
        omega
      · simp only [upd, if_neg hxi] at hLx
        obtain ⟨b, h1, h2⟩ := hB x hxA hxl hLx
        by_cases hyi : y.1 = i
        · obtain ⟨rfl, _⟩ := hnew y hyA hyi
          simp only [upd, if_neg (dne _ hxl hxi)]
          rw [hyi, if_pos rfl, h1]
          intro e
          injection e with e; injection e with e; injection e with e _ _
          omega
        · simp only [upd, if_neg hyi] at hLy
          simp only [upd, if_neg (dne _ hxl hxi), if_neg (dne _ hyl hyi)]
          exact hX x hxA y hyA hxl hyl hxy hLx hLy
    · by_cases hmi : m = i
      · subst hmi
        rcases (looks m o ho j hj).2 with rfl | ⟨e, he, hb, h⟩
        · simp [upd]
        · have hLe := hedges e he hb
          have : L j = true := by
            rcases h with rfl | h
            · exact hLe
            · exact hC _ (hlt e he hb) hLe j h
          by_cases hji : j = m
          · subst hji; simp [upd]
          · simp only [upd, if_neg hji]; exact this
      · simp only [upd, if_neg hmi] at hL
        have := hC m hm hL j hj
        by_cases hji : j = i
        · subst hji; simp [upd]
        · simp only [upd, if_neg hji]; exact this
    · by_cases hmi : m = i
      · subst hmi; exact hv
      · simp only [upd, if_neg hmi] at hL
        have hsame : valsOf (all.take n) D (upd σ (dstOf (all.take n) i) v) m = valsOf (all.take n) D σ m := by
          unfold valsOf
          refine List.map_congr_left fun j hj => ?_
          have hLj := hC m hm hL j hj
          have hji : j ≠ i := fun e => by subst e; rw [hLi] at hLj; cases hLj
          have hjl : j < (all.take n).length := (looks m (all.take n)[m] (List.getElem?_eq_getElem hm) j hj).1
          have hoj : (all.take n)[j]? = some (all.take n)[j] := List.getElem?_eq_getElem hjl
          have hne : dstOf (all.take n) j ≠ dstOf (all.take n) i := by
            intro e
            obtain ⟨_, ⟨di, hdi, _⟩, _⟩ := factsOk_spec hok i _ ho
            obtain ⟨_, ⟨dj, hdj, _⟩, _⟩ := factsOk_spec hok j _ hoj
            have e' : dj = di := by simp only [dstOf, hoj, ho, Option.bind_some, hdi, hdj, Option.getD_some] at e; exact e
            exact hji (factsOk_inj hok hoj ho (by rw [hdi, hdj, e']))
          simp only [upd, if_neg hne]
        rw [hsame]
        exact hV _ _ _ _ hE' (hF m hm hL)
  · intro σ L w hall hold ⟨hE, _, hF, _, hX⟩
    exact hpost σ w hE (EndFacts.of_all (all.take n) 0 fun i hi => by rw [Nat.zero_add]; exact hF i hi (hall i (by rw [List.length_take] at hi; omega))) (fun x hxA y hyA hxl hyl hxy => hX x hxA y hyA hxl hyl hxy (hall _ (by rw [List.length_take] at hxl; omega)) (hall _ (by rw [List.length_take] at hyl; omega)))

theorem wp_region_looks_g {id : Nat} (hm : P.follows .mixedOrders = true) (E : World → World → Prop) (D : List (List Nat)) (V : List (List Value → World → Prop))
    (hrefl : ∀ w, E w w) (htr : ∀ a b c, E a b → E b c → E a c) (hV : ∀ i vs w w', E w w' → factOf V i vs w → factOf V i vs w')
    (hok : factsOk ops a0.tmps.size = true) (hlk : looksOk ops D = true) (hstep : FactStepsG P ops D E V a0 w0.drew 0 ops)
    (hpost : ∀ (σ : Nat → Value) (w : World), E w0.drew w → EndFacts ops D V σ w 0 ops → Q .normal (putAll ops (ops.map fun o => σ ((o.dst).getD 0)) a0) w) :
    (Code.region id ops.toArray true).wp P Q a0 w0 := by
  have looks : ∀ i o, ops[i]? = some o → ∀ j ∈ looksOf D i, j < ops.length ∧ (j = i ∨ ∃ e ∈ o.after.toList, Region.binds .any e = true ∧ (e.on = j ∨ j ∈ looksOf D e.on)) := by
    intro i o ho j hj
    have h1 := List.all_eq_true.1 hlk (o, i) (by rw [List.mem_zipIdx_iff_getElem?]; simpa using ho)
    have h2 := List.all_eq_true.1 h1 j hj
    simp only [Bool.and_eq_true, decide_eq_true_eq, Bool.or_eq_true, beq_iff_eq] at h2
    refine ⟨h2.1, h2.2.imp _root_.id fun h => ?_⟩
    obtain ⟨e, he, hb⟩ := List.any_eq_true.1 h
    simp only [Bool.and_eq_true, Bool.or_eq_true, beq_iff_eq, List.contains_iff_mem] at hb
    exact ⟨e, he, hb.1, hb.2⟩
  refine wp_region_inv hm (fun L σ w => E w0.drew w ∧ (∀ i, i < ops.length → L i = true → ∀ j ∈ looksOf D i, L j = true) ∧ ∀ i, i < ops.length → L i = true → factOf V i (valsOf ops D σ i) w) hok ?_
    ⟨hrefl _, fun i _ h => (by cases h), fun i _ h => (by cases h)⟩ ?_
  · intro i o ho L σ w hLi hedges hold ⟨hE, hC, hF⟩
    have hi : i < ops.length := (List.getElem?_eq_some_iff.1 ho).1
    have hs := FactStepsG.at ops 0 hstep i o ho
    rw [Nat.zero_add] at hs
    have hlt : ∀ e ∈ o.after.toList, Region.binds .any e = true → e.on < ops.length := fun e he hb => by
      have := (factsOk_spec hok i o ho).1 e he hb
      omega
    have hk : KnownF ops D V σ w o.after.toList := KnownF.of_all _ fun e he hb => hF _ (hlt e he hb) (hedges e he hb)
    have hs := hs σ w hE hold hk
    suffices next : ∀ v w', E w w' → factOf V i (valsOf ops D (upd σ (dstOf ops i) v) i) w' → E w0.drew w' ∧ (∀ m, m < ops.length → upd L i true m = true → ∀ j ∈ looksOf D m, upd L i true j = true) ∧ ∀ m, m < ops.length → upd L i true m = true → factOf V m (valsOf ops D (upd σ (dstOf ops i) v) m) w' by
      cases hwb : wantedBy ops σ o with
      | true => rw [hwb] at hs; exact Does.mono hs fun v w' h => next v w' h.1 h.2
      | false => rw [hwb] at hs; exact next undef w (hrefl w) hs
    intro v w' hE' hv
    refine ⟨htr _ _ _ hE hE', fun m hm hL j hj => ?_, fun m hm hL => ?_⟩
    · by_cases hmi : m = i
      · subst hmi
        rcases (looks m o ho j hj).2 with rfl | ⟨e, he, hb, h⟩
        · simp [upd]
        · have hLe := hedges e he hb
          have : L j = true := by
            rcases h with rfl | h
            · exact hLe
            · exact hC _ (hlt e he hb) hLe j h
          by_cases hji : j = m
          · subst hji; simp [upd]
          · simp only [upd, if_neg hji]; exact this
      · simp only [upd, if_neg hmi] at hL
        have := hC m hm hL j hj
        by_cases hji : j = i
        · subst hji; simp [upd]
        · simp only [upd, if_neg hji]; exact this
    · by_cases hmi : m = i
      · subst hmi; exact hv
      · simp only [upd, if_neg hmi] at hL
        have hsame : valsOf ops D (upd σ (dstOf ops i) v) m = valsOf ops D σ m := by
          unfold valsOf
          refine List.map_congr_left fun j hj => ?_
          have hLj := hC m hm hL j hj
          have hji : j ≠ i := fun e => by subst e; rw [hLi] at hLj; cases hLj
          have hjl : j < ops.length := (looks m ops[m] (List.getElem?_eq_getElem hm) j hj).1
          have hoj : ops[j]? = some ops[j] := List.getElem?_eq_getElem hjl
          have hne : dstOf ops j ≠ dstOf ops i := by
            intro e
            obtain ⟨_, ⟨di, hdi, _⟩, _⟩ := factsOk_spec hok i _ ho
            obtain ⟨_, ⟨dj, hdj, _⟩, _⟩ := factsOk_spec hok j _ hoj
            have e' : dj = di := by simpa [dstOf, hoj, ho, hdi, hdj] using e
            exact hji (factsOk_inj hok hoj ho (by rw [hdi, hdj, e']))
          simp only [upd, if_neg hne]
        rw [hsame]
        exact hV _ _ _ _ hE' (hF m hm hL)
  · intro σ L w hall hold ⟨hE, _, hF⟩
    exact hpost σ w hE (EndFacts.of_all ops 0 fun i hi => by rw [Nat.zero_add]; exact hF i hi (hall i hi))

theorem wp_region_lives_fresh {id : Nat} (n : Nat) (hm : P.follows .mixedOrders = true) (E : World → World → Prop) (D : List (List Nat)) (V : List (SFact E))
    (hrefl : ∀ w, E w w) (htr : ∀ a b c, E a b → E b c → E a c) (A : List (Nat × Obj)) (hA : ∀ x ∈ A, ∀ o, ops[x.1]? = some o → o.guard = none ∧ ∀ ρ w, (execOp ρ o).run P w = .ok (.value (.pointer (some ⟨w.heap.size, 0, none⟩))) (w.alloc x.2)) (hEs : ∀ w w', E w w' → w.heap.size ≤ w'.heap.size)
    (ht : tailOk all n = true) (hal : all.take n = ops) (hok : factsOk ops a0.tmps.size = true) (hlk : looksOk ops D = true) (hstep : FactStepsG P ops D E (V.map (·.holds)) a0 w0.drew 0 ops)
    (hpost : ∀ (σ : Nat → Value) (w : World), E w0.drew w → EndFacts ops D (V.map (·.holds)) σ w 0 ops → Apart A ops σ → wpList P all.toArray Q (all.drop n) (putAll ops (ops.map fun o => σ ((o.dst).getD 0)) a0) w) :
    (Code.region id all.toArray true).wp P Q a0 w0 := by
  refine wp_region_looks_fresh n hm E D (V.map (·.holds)) hrefl htr A hA hEs (fun i vs w w' hE h => ?_) ht hal hok hlk hstep hpost
  unfold factOf at *
  rw [List.getElem?_map] at *
  cases hv : V[i]? with
  | none => trivial
  | some f => rw [hv] at h; exact f.lives _ _ _ hE h
theorem wp_region_lives_g {id : Nat} (hm : P.follows .mixedOrders = true) (E : World → World → Prop) (D : List (List Nat)) (V : List (SFact E))
    (hrefl : ∀ w, E w w) (htr : ∀ a b c, E a b → E b c → E a c)
    (hok : factsOk ops a0.tmps.size = true) (hlk : looksOk ops D = true) (hstep : FactStepsG P ops D E (V.map (·.holds)) a0 w0.drew 0 ops)
    (hpost : ∀ (σ : Nat → Value) (w : World), E w0.drew w → EndFacts ops D (V.map (·.holds)) σ w 0 ops → Q .normal (putAll ops (ops.map fun o => σ ((o.dst).getD 0)) a0) w) :
    (Code.region id ops.toArray true).wp P Q a0 w0 := by
  refine wp_region_looks_g hm E D (V.map (·.holds)) hrefl htr (fun i vs w w' hE h => ?_) hok hlk hstep hpost
  unfold factOf at *
  rw [List.getElem?_map] at *
  cases hv : V[i]? with
  | none => trivial
  | some f => rw [hv] at h; exact f.lives _ _ _ hE h
end
end Go.Proofs.Ytmbjebdkhcpclaa
