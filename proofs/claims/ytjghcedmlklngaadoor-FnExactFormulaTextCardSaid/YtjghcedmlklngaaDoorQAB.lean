/-
A region that draws its order, whose operations read, compute, and call functions that make new memory: one account serves every order. Of each operation's value only a predicate is told (a copy lies somewhere in new memory), and it must outlast new memory. No program is named here.
Contracts: lists of values, valid relations and templates, in the program and in the reference.
Contracts: valid relations and templates, in the program and in the reference.
Contracts: valid relations and templates (the program's), valid templates (the reference's).
Contracts: what a number of a relation tells; atoms' places; counts of formulas.
A region that draws its order, with loads ahead of writes: one condition on the world lets the loads be taken first; it need hold no more once one of the last writes ('tail') has come up. Every load waits for none of these, and these wait for every load. No program is named here.
-/
import Derived.Test.YtjghcedmlklngaaDoorQAA
import Derived.Deep.RegionHeld
import Derived.Below
namespace Go.Proofs.YtjghcedmlklngaaDoor
open Go.RowKit

abbrev VP := Value → World → Prop

def looseUpon (P : Program) (w : World) (Φ : VP) : Result Next → Prop
  | .ok (.value v) w' => Below w.heap.size w w' ∧ Φ v w'
  | .ok .skip w' => Below w.heap.size w w' ∧ Φ undef w'
  | .ok (.enter f args) w' => Below w.heap.size w w' ∧ Calls P f args w' fun e w'' => ∃ v, e = .returned v ∧ Below w'.heap.size w' w'' ∧ Φ v w''
  | _ => False

def writer : List Oper → List VP → Tmp → Option VP
  | o :: l, Φ :: Φs, t => if o.dst = some t then some Φ else writer l Φs t
  | _, _, _ => none

def slotP (l : List Oper) (Φs : List VP) (a : Act) (t : Tmp) : VP := match writer l Φs t with
  | some Φ => Φ
  | none => fun v _ => v = a.eval (.tmp t)

def readsB (o : Oper) (t : Tmp) : Bool := o.op.operands.toList.any fun x => match x with | .tmp s => s == t | _ => false

def JAt (P : Program) (l : List Oper) (Φs : List VP) (a : Act) (w : World) (o : Oper) (Φ : VP) : Prop :=
  ∀ (a' : Act) (w' : World), Below w.heap.size w w' → (∀ t, readsB o t = true → slotP l Φs a t (a'.eval (.tmp t)) w') → looseUpon P w' Φ ((execOp a'.eval o).run P w')

def JAll (P : Program) (l : List Oper) (Φs : List VP) (a : Act) (w : World) : List Oper → List VP → Prop
  | o :: r, Φ :: Φr => JAt P l Φs a w o Φ ∧ JAll P l Φs a w r Φr
  | [], [] => True
  | _, _ => False

def putAll (a : Act) : List Oper → List Value → Act
  | o :: l, v :: vs => putAll (a.put o.dst v) l vs
  | _, _ => a

def HAll (w : World) : List Oper → List VP → List Value → Prop
  | o :: l, Φ :: Φs, v :: vs => (o.dst.isSome = true → Φ v w) ∧ HAll w l Φs vs
  | [], [], [] => True
  | _, _, _ => False

/-- no guards; each edge leads back; every slot that an operation names and that another one writes is written by one that it waits for; no slot is written twice; all slots lie in the frame -/
def looseB (l : List Oper) (n : Nat) : Bool :=
  l.zipIdx.all fun (o, i) => o.guard.isNone && o.after.toList.all (fun e => !Region.binds .any e || decide (e.on < i)) && (match o.dst with | some d => decide (d < n) | none => true) &&
    l.zipIdx.all fun (q, j) => match q.dst with
      | none => true
      | some d => (o.op.operands.toList.all fun x => match x with
          | .tmp t => t != d || o.after.toList.any (fun e => e.on == j && Region.binds .any e)
          | _ => true) && (i == j || o.dst != some d)

theorem writer_some {l : List Oper} {Φs : List VP} {t : Tmp} {Φ : VP} (h : writer l Φs t = some Φ) : ∃ (j : Nat) (o : Oper), l[j]? = some o ∧ o.dst = some t ∧ Φs[j]? = some Φ := by
  induction l generalizing Φs with
  | nil => simp [writer] at h
  | cons o l ih =>
    cases Φs with
    | nil => simp [writer] at h
    | cons Φ' Φs =>
      simp only [writer] at h
      split at h
      · rename_i hd
        exact ⟨0, o, rfl, hd, h⟩
      · obtain ⟨j, o', h1, h2, h3⟩ := ih h
        exact ⟨j + 1, o', h1, h2, h3⟩
theorem writer_none {l : List Oper} {Φs : List VP} {t : Tmp} (hl : l.length = Φs.length) (h : writer l Φs t = none) : ∀ (j : Nat) (o : Oper), l[j]? = some o → o.dst ≠ some t := by
  induction l generalizing Φs with
  | nil => intro j o h; simp at h
  | cons q l ih =>
    cases Φs with
    | nil => simp at hl
    | cons Φ' Φs =>
      simp only [writer] at h
      split at h
      · cases h
      · rename_i hd
        intro j o ho
        match j with
        | 0 => simp at ho; subst ho; exact hd
        | j + 1 => exact ih (by simpa using hl) h j o (by simpa using ho)

theorem JAll_len {P : Program} {l : List Oper} {Φs : List VP} {a : Act} {w : World} : ∀ {r : List Oper} {Φr : List VP}, JAll P l Φs a w r Φr → r.length = Φr.length
  | [], [], _ => rfl
  | _ :: _, _ :: _, h => by simp [JAll_len h.2]
  | [], _ :: _, h => by cases h
  | _ :: _, [], h => by cases h
theorem JAll_get {P : Program} {l : List Oper} {Φs : List VP} {a : Act} {w : World} : ∀ {r : List Oper} {Φr : List VP}, JAll P l Φs a w r Φr → ∀ {i : Nat} {o : Oper} {Φ : VP}, r[i]? = some o → Φr[i]? = some Φ → JAt P l Φs a w o Φ
  | [], _, _, i, o, Φ, h, _ => by simp at h
  | q :: r, [], h, _, _, _, _, _ => by cases h
  | q :: r, Φ' :: Φr, hj, i, o, Φ, h, h' => by
    match i with
    | 0 => simp at h h'; subst h; subst h'; exact hj.1
    | i + 1 => exact JAll_get hj.2 (by simpa using h) (by simpa using h')

/-- where the region stands -/
structure LInv (l : List Oper) (Φs : List VP) (a : Act) (w : World) (listed : Array Bool) (a' : Act) (w' : World) : Prop where
  below : Below w.heap.size w w'
  size : listed.size = l.length
  defers : a'.defers = a.defers
  tsize : a'.tmps.size = a.tmps.size
  old : ∀ t, (∀ (j : Nat) (o : Oper), l[j]? = some o → o.dst = some t → listed.getD j false = false) → a'.tmps[t]? = a.tmps[t]?
  new : ∀ (j : Nat) (o : Oper) (Φ : VP), l[j]? = some o → Φs[j]? = some Φ → listed.getD j false = true → ∀ d, o.dst = some d → Φ (a'.eval (.tmp d)) w'

theorem looseB_spec {l : List Oper} {n : Nat} (h : looseB l n = true) {i : Nat} {o : Oper} (hi : l[i]? = some o) :
    o.guard = none ∧ (∀ e ∈ o.after, Region.binds .any e = true → e.on < i) ∧ (∀ d, o.dst = some d → d < n) ∧
    ∀ (j : Nat) (q : Oper) (d : Tmp), l[j]? = some q → q.dst = some d → (Operand.tmp d ∈ o.op.operands.toList → ∃ e ∈ o.after, e.on = j ∧ Region.binds .any e = true) ∧ (i ≠ j → o.dst ≠ some d) := by
  have hmem : (o, i) ∈ l.zipIdx := by
    rw [List.mem_zipIdx_iff_getElem?]
    exact hi
  have h1 := List.all_eq_true.1 h _ hmem
  simp only [Bool.and_eq_true] at h1
  obtain ⟨⟨⟨g1, g2⟩, g3⟩, g4⟩ := h1
  refine ⟨by simpa using g1, fun e he hbd => ?_, fun d hd => ?_, fun j q d hj hd => ?_⟩
  · have := List.all_eq_true.1 g2 e (by simpa using he)
    simpa [hbd] using this
  · rw [hd] at g3; simpa using g3
  · have hmem2 : (q, j) ∈ l.zipIdx := by rw [List.mem_zipIdx_iff_getElem?]; exact hj
    have h2 := List.all_eq_true.1 g4 _ hmem2
    simp only [hd, Bool.and_eq_true] at h2
    refine ⟨fun ht => ?_, fun hne he => ?_⟩
    · have h3 := List.all_eq_true.1 h2.1 _ ht
      simp only [bne_self_eq_false, Bool.false_or, List.any_eq_true, Bool.and_eq_true, beq_iff_eq] at h3
      obtain ⟨e, he, h4, h5⟩ := h3
      exact ⟨e, by simpa using he, h4, h5⟩
    · have := h2.2
      rw [he] at this
      simp [hne] at this

theorem eval_put_self {a : Act} {d : Tmp} {v : Value} (h : d < a.tmps.size) : (a.put (some d) v).eval (.tmp d) = v := by
  simp [Act.put, Act.eval, h]
theorem eval_put_ne {a : Act} {o : Option Tmp} {d : Tmp} {v : Value} (h : o ≠ some d) : (a.put o v).eval (.tmp d) = a.eval (.tmp d) := by
  cases o with
  | none => rfl
  | some q => simp [Act.put, Act.eval, Array.getElem?_setIfInBounds_ne (show q ≠ d from fun e => h (by rw [e]))]
theorem put_size {a : Act} {o : Option Tmp} {v : Value} : (a.put o v).tmps.size = a.tmps.size := by cases o <;> simp [Act.put]
theorem put_defers {a : Act} {o : Option Tmp} {v : Value} : (a.put o v).defers = a.defers := by cases o <;> rfl
theorem put_other {a : Act} {o : Option Tmp} {v : Value} {t : Tmp} (h : o ≠ some t) : (a.put o v).tmps[t]? = a.tmps[t]? := by
  cases o with
  | none => rfl
  | some q => simp only [Act.put]; rw [Array.getElem?_setIfInBounds_ne (show q ≠ t from fun e => h (by rw [e]))]
theorem put_same {a : Act} {t : Tmp} {v : Value} (h : t < a.tmps.size) : (a.put (some t) v).tmps[t]? = some v := by
  simp only [Act.put]; rw [Array.getElem?_setIfInBounds_self_of_lt h]

theorem LInv.step {l : List Oper} {Φs : List VP} {a : Act} {w : World} {listed : Array Bool} {a' : Act} {w' w'' : World} (hB : looseB l a.tmps.size = true)
    (hst : ∀ Φ ∈ Φs, ∀ v w1 w2, Φ v w1 → Below w1.heap.size w1 w2 → Φ v w2) (h : LInv l Φs a w listed a' w') {i : Nat} {o : Oper} {Φ : VP} (hi : l[i]? = some o) (hΦ : Φs[i]? = some Φ) {v : Value} (hb : Below w'.heap.size w' w'') (hv : Φ v w'') :
    LInv l Φs a w (listed.setIfInBounds i true) (a'.put o.dst v) w'' := by
  have hlt : i < listed.size := by rw [h.size]; exact (List.getElem?_eq_some_iff.1 hi).1
  obtain ⟨_, _, hdn, hall⟩ := looseB_spec hB hi
  refine ⟨bthen h.below hb, by simpa using h.size, put_defers.trans h.defers, put_size.trans h.tsize, fun t ht => ?_, fun j q Ψ hj hΨ hl d hd => ?_⟩
  · have hne : o.dst ≠ some t := fun e => by
      have := ht i o hi e
      rw [Array.getD_eq_getD_getElem?, Array.getElem?_setIfInBounds_self_of_lt hlt] at this
      cases this
    rw [put_other hne]
    refine h.old t fun j q hj hd => ?_
    have := ht j q hj hd
    by_cases e : i = j
    · subst e; rw [Array.getD_eq_getD_getElem?, Array.getElem?_setIfInBounds_self_of_lt hlt] at this; cases this
    · rwa [getD_set_ne false e] at this
  · by_cases e : i = j
    · subst e
      rw [hi] at hj
      cases hj
      rw [hΦ] at hΨ
      cases hΨ
      rw [hd, eval_put_self (by rw [h.tsize]; exact hdn d hd)]
      exact hv
    · rw [getD_set_ne false e] at hl
      have hne := (hall j q d hj hd).2 e
      rw [eval_put_ne hne]
      exact hst Ψ (List.mem_of_getElem? hΨ) _ _ _ (h.new j q Ψ hj hΨ hl d hd) hb

theorem putAll_frame {l : List Oper} : ∀ {vs : List Value} {a : Act}, (putAll a l vs).tmps.size = a.tmps.size ∧ (putAll a l vs).defers = a.defers ∧
    ∀ t, (∀ o ∈ l, o.dst ≠ some t) → (putAll a l vs).tmps[t]? = a.tmps[t]? := by
  induction l with
  | nil => intro vs a; cases vs <;> exact ⟨rfl, rfl, fun _ _ => rfl⟩
  | cons o l ih =>
    intro vs a
    cases vs with
    | nil => exact ⟨rfl, rfl, fun _ _ => rfl⟩
    | cons v vs =>
      obtain ⟨h1, h2, h3⟩ := ih (vs := vs) (a := a.put o.dst v)
      exact ⟨h1.trans put_size, h2.trans put_defers, fun t ht => (h3 t fun q hq => ht q (List.mem_cons_of_mem _ hq)).trans (put_other (ht o (List.mem_cons_self ..)))⟩
theorem putAll_get {l : List Oper} : ∀ {a : Act} (f : Oper → Value) {j : Nat} {q : Oper} {d : Tmp}, l[j]? = some q → q.dst = some d → d < a.tmps.size → (∀ (i : Nat) (o : Oper), i ≠ j → l[i]? = some o → o.dst ≠ some d) →
    (putAll a l (l.map f)).tmps[d]? = some (f q) := by
  induction l with
  | nil => intro a f j q d h; simp at h
  | cons o l ih =>
    intro a f j q d hj hd hlt hne
    simp only [List.map_cons, putAll]
    match j with
    | 0 =>
      simp at hj
      subst hj
      rw [(putAll_frame (l := l) (vs := l.map f) (a := a.put o.dst (f o))).2.2 d (fun p hp => ?_), hd, put_same hlt]
      obtain ⟨i, hi⟩ := List.getElem?_of_mem hp
      exact hne (i + 1) p (by omega) (by simpa using hi)
    | j + 1 =>
      exact ih f (by simpa using hj) hd (by rw [put_size]; exact hlt) fun i p hi hp => hne (i + 1) p (by omega) (by simpa using hp)

theorem HAll_of {w : World} {f : Oper → Value} : ∀ {l : List Oper} {Φs : List VP}, l.length = Φs.length → (∀ (j : Nat) (o : Oper) (Φ : VP), l[j]? = some o → Φs[j]? = some Φ → o.dst.isSome = true → Φ (f o) w) → HAll w l Φs (l.map f)
  | [], [], _, _ => trivial
  | o :: l, Φ :: Φs, hl, h => ⟨h 0 o Φ rfl rfl, HAll_of (by simpa using hl) fun j q Ψ hj hΨ => h (j + 1) q Ψ (by simpa using hj) (by simpa using hΨ)⟩
  | [], _ :: _, hl, _ => by simp at hl
  | _ :: _, [], hl, _ => by simp at hl

theorem ready_nil {l : List Oper} {n : Nat} (hB : looseB l n = true) {listed : Array Bool} (hs : listed.size = l.length) (h : Region.ready .any l.toArray listed = []) : ∀ i, i < l.length → listed.getD i false = true := by
  intro i
  induction i using Nat.strongRecOn with
  | ind i ih =>
    intro hi
    cases hl : listed.getD i false
    · exfalso
      have hm : i ∈ Region.ready .any l.toArray listed := by
        refine mem_ready.2 ⟨?_, l[i], by simp [hi], fun e he hbd => ?_⟩
        · have : i < listed.size := by omega
          rw [Array.getD_eq_getD_getElem?, Array.getElem?_eq_getElem this] at hl ⊢
          exact hl
        · have hlt := (looseB_spec hB (i := i) (o := l[i]) (by simp [hi])).2.1 e he hbd
          exact ih e.on hlt (by omega)
      rw [h] at hm
      cases hm
    · rfl

theorem wpAny_loose {P : Program} {l : List Oper} {Φs : List VP} {a : Act} {w : World} {Q : Exit → Act → World → Prop} (hB : looseB l a.tmps.size = true)
    (hst : ∀ Φ ∈ Φs, ∀ v w1 w2, Φ v w1 → Below w1.heap.size w1 w2 → Φ v w2) (hJ : JAll P l Φs a w l Φs)
    (hQ : ∀ vs w', Below w.heap.size w w' → HAll w' l Φs vs → Q .normal (putAll a l vs) w') :
    ∀ (fuel : Nat) (listed : Array Bool) (a' : Act) (w' : World), (∃ s : List Nat, s.Nodup ∧ (∀ i ∈ s, i < l.length ∧ listed.getD i true = false) ∧ (∀ i, i < l.length → listed.getD i true = false → i ∈ s) ∧ s.length ≤ fuel) → LInv l Φs a w listed a' w' → wpAny P .any l.toArray Q fuel listed a' w' := by
  have hlen := JAll_len hJ
  have fin : ∀ (listed : Array Bool) (a' : Act) (w' : World), LInv l Φs a w listed a' w' → Region.ready .any l.toArray listed = [] → Q .normal a' w' := by
    intro listed a' w' hI hr
    have hall := ready_nil hB hI.size hr
    let f : Oper → Value := fun o => match o.dst with | some d => a'.eval (.tmp d) | none => undef
    have hH : HAll w' l Φs (l.map f) := HAll_of hlen fun j o Φ hj hΦ hs => by
      obtain ⟨d, hd⟩ := Option.isSome_iff_exists.1 hs
      have := hI.new j o Φ hj hΦ (hall j (List.getElem?_eq_some_iff.1 hj).1) d hd
      simpa [f, hd] using this
    have ha : a' = putAll a l (l.map f) := by
      obtain ⟨p1, p2, p3⟩ := putAll_frame (l := l) (vs := l.map f) (a := a)
      have e1 : a'.tmps = (putAll a l (l.map f)).tmps := by
        apply Array.ext_getElem?
        intro t
        by_cases ht : ∃ (j : Nat) (o : Oper), l[j]? = some o ∧ o.dst = some t
        · obtain ⟨j, o, hj, hd⟩ := ht
          obtain ⟨_, _, hdn, _⟩ := looseB_spec hB hj
          have hlt := hdn t hd
          rw [putAll_get f hj hd hlt (fun i q hne hq => ((looseB_spec hB hq).2.2.2 j o t hj hd).2 hne)]
          have hlt' : t < a'.tmps.size := by rw [hI.tsize]; exact hlt
          simp [f, hd, Act.eval, Array.getElem?_eq_getElem hlt']
        · rw [p3 t (fun o ho hd => ?_)]
          · exact hI.old t fun j o hj hd => absurd ⟨j, o, hj, hd⟩ ht
          · obtain ⟨j, hj⟩ := List.getElem?_of_mem ho
            exact ht ⟨j, o, hj, hd⟩
      have e2 : a'.defers = (putAll a l (l.map f)).defers := hI.defers.trans p2.symm
      cases a'
      cases hq : putAll a l (l.map f)
      rw [hq] at e1 e2
      simp only at e1 e2
      rw [e1, e2]
    rw [ha]
    exact hQ _ _ hI.below hH
  intro fuel
  induction fuel with
  | zero =>
    intro listed a' w' ⟨s, _, _, hs2, hs3⟩ hI
    have hr : Region.ready .any l.toArray listed = [] := by
      rw [List.eq_nil_iff_forall_not_mem]
      intro i hi
      obtain ⟨h1, o, ho, _⟩ := mem_ready.1 hi
      have hlt : i < l.length := by simpa using (Array.getElem?_eq_some_iff.1 ho).1
      have := hs2 i hlt h1
      obtain rfl : s = [] := List.eq_nil_of_length_eq_zero (by omega)
      cases this
    exact ⟨hr, fin _ _ _ hI hr⟩
  | succ fuel ih =>
    intro listed a' w' ⟨s, hs0, hs1, hs2, hs3⟩ hI
    refine ⟨fin _ _ _ hI, fun i hi => ?_⟩
    obtain ⟨h1, o, ho, hdeps⟩ := mem_ready.1 hi
    have hlt : i < l.length := by simpa using (Array.getElem?_eq_some_iff.1 ho).1
    have ho' : l[i]? = some o := by simpa using ho
    obtain ⟨Φ, hΦ⟩ : ∃ Φ, Φs[i]? = some Φ := ⟨_, List.getElem?_eq_getElem (by omega)⟩
    obtain ⟨hg, _, _, hall⟩ := looseB_spec hB ho'
    have hJi : JAt P l Φs a w o Φ := JAll_get hJ ho' hΦ
    have hj := hJi a' w' hI.below (fun t ht0 => by
      have ht : Operand.tmp t ∈ o.op.operands.toList := by
        unfold readsB at ht0
        obtain ⟨x, hx, he⟩ := List.any_eq_true.1 ht0
        cases x <;> simp at he
        subst he
        exact hx
      unfold slotP
      cases hwr : writer l Φs t with
      | some Ψ =>
        obtain ⟨j, q, hj, hd, hΨ⟩ := writer_some hwr
        obtain ⟨e, he, hon, hbind⟩ := (hall j q t hj hd).1 ht
        exact hI.new j q Ψ hj hΨ (by rw [← hon]; exact hdeps e he hbind) t hd
      | none =>
        have hno := writer_none hlen hwr
        have := hI.old t fun j q hj hd => absurd hd (hno j q hj)
        simp [Act.eval, this])
    have hnext : ∀ v w'', Below w'.heap.size w' w'' → Φ v w'' → wpAny P .any l.toArray Q fuel (listed.setIfInBounds i true) (a'.put o.dst v) w'' := by
      intro v w'' hb hv
      refine ih _ _ _ ⟨s.erase i, hs0.erase i, fun j hj => ?_, fun j hj hl => ?_, ?_⟩ (hI.step hB hst ho' hΦ hb hv)
      · have hj' := List.mem_of_mem_erase hj
        have hne : j ≠ i := fun e => by subst e; exact (hs0.not_mem_erase) hj
        exact ⟨(hs1 j hj').1, by rw [getD_set_ne true (Ne.symm hne)]; exact (hs1 j hj').2⟩
      · have hne : i ≠ j := fun e => by
          subst e
          have hsz : i < listed.size := by rw [hI.size]; exact hlt
          rw [Array.getD_eq_getD_getElem?, Array.getElem?_setIfInBounds_self_of_lt hsz] at hl
          cases hl
        rw [getD_set_ne true hne] at hl
        exact (List.mem_erase_of_ne (Ne.symm hne)).2 (hs2 j hj hl)
      · rw [List.length_erase_of_mem (hs2 i hlt h1)]; omega
    unfold wpOp
    rw [ho]
    simp only [Region.wanted, hg, if_true]
    left
    unfold Oper.wp
    generalize (execOp a'.eval o).run P w' = r at hj
    cases r with
    | ok n w1 =>
      cases n with
      | value v => exact hnext v w1 hj.1 hj.2
      | skip => exact hnext undef w1 hj.1 hj.2
      | enter f args =>
        refine hj.2.mono fun e w2 ⟨v, he, hb2, hv⟩ => ?_
        subst he
        exact hnext v w2 (bthen hj.1 hb2) hv
      | _ => exact hj.elim
    | halt x w1 => exact hj.elim

/-- predicates that outlast new memory -/
def Stab (Φ : VP) : Prop := ∀ v w1 w2, Φ v w1 → Below w1.heap.size w1 w2 → Φ v w2
def SAll : List VP → Prop
  | Φ :: Φs => Stab Φ ∧ SAll Φs
  | [] => True
theorem SAll_mem : ∀ {Φs : List VP}, SAll Φs → ∀ Φ ∈ Φs, ∀ v w1 w2, Φ v w1 → Below w1.heap.size w1 w2 → Φ v w2
  | _ :: _, h, Φ, hm, v, w1, w2, h1, hb => by
    rcases List.mem_cons.1 hm with rfl | hm
    · exact h.1 v w1 w2 h1 hb
    · exact SAll_mem h.2 Φ hm v w1 w2 h1 hb
/-- the very value; a struct, a slice that reads so; new memory that reads so -/
def exV (c : Value) : VP := fun v _ => v = c
def rdA {α : Type} (E : Ty α) (x : α) : VP := fun v W => ∃ cs : List Value, v = .agg cs.toArray ∧ E.Rd W cs x
def rdS {α : Type} (E : Ty α) (x : α) : VP := fun v W => E.Rd W [v] x
def frA {α : Type} (E : Ty α) (base : Nat) (x : α) : VP := fun v W => ∃ cs : List Value, v = .agg cs.toArray ∧ E.Fr base W cs x
def frS {α : Type} (E : Ty α) (base : Nat) (x : α) : VP := fun v W => E.Fr base W [v] x
theorem st_exV {c : Value} : Stab (exV c) := fun _ _ _ h _ => h
theorem st_rdA {α : Type} {E : Ty α} {x : α} : Stab (rdA E x) := fun _ _ _ ⟨cs, h1, h2⟩ hb => ⟨cs, h1, h2.below hb⟩
theorem st_rdS {α : Type} {E : Ty α} {x : α} : Stab (rdS E x) := fun _ _ _ h hb => Ty.Rd.below h hb
theorem st_frA {α : Type} {E : Ty α} {base : Nat} {x : α} : Stab (frA E base x) := fun _ _ _ ⟨cs, h1, h2⟩ hb => ⟨cs, h1, h2.below hb⟩
theorem st_frS {α : Type} {E : Ty α} {base : Nat} {x : α} : Stab (frS E base x) := fun _ _ _ h hb => Ty.Fr.below h hb
theorem st_any : Stab (fun _ _ => True) := fun _ _ _ _ _ => trivial
theorem ev {a : Act} {t : Tmp} {v : Value} (h : a.eval (.tmp t) = v) : a.tmps[t]?.getD undef = v := by simpa [Act.eval] using h
theorem HAll_cons {w : World} {o : Oper} {l : List Oper} {Φ : VP} {Φs : List VP} {vs : List Value} (h : HAll w (o :: l) (Φ :: Φs) vs) : ∃ v r, vs = v :: r ∧ (o.dst.isSome = true → Φ v w) ∧ HAll w l Φs r := by
  cases vs with
  | nil => cases h
  | cons v r => exact ⟨v, r, rfl, h.1, h.2⟩
theorem HAll_nil {w : World} {vs : List Value} (h : HAll w [] [] vs) : vs = [] := by
  cases vs with
  | nil => rfl
  | cons v r => cases h
theorem exV_eqB {α : Type} [DecidableEq α] {x : α} {w : World} : exV (.bool true) (.bool (eqB x x)) w := congrArg Value.bool (eqB_true rfl)
theorem slot_w {l : List Oper} {Φs : List VP} {a a' : Act} {w' : World} {o : Oper} (hd : ∀ t, readsB o t = true → slotP l Φs a t (a'.eval (.tmp t)) w') (t : Tmp) (Φ : VP) (hr : readsB o t = true) (hw : writer l Φs t = some Φ) : Φ (a'.eval (.tmp t)) w' := by
  have h := hd t hr
  unfold slotP at h
  rw [hw] at h
  exact h
theorem slot_o {l : List Oper} {Φs : List VP} {a a' : Act} {w' : World} {o : Oper} (hd : ∀ t, readsB o t = true → slotP l Φs a t (a'.eval (.tmp t)) w') (t : Tmp) (hr : readsB o t = true) (hw : writer l Φs t = none) : a'.eval (.tmp t) = a.eval (.tmp t) := by
  have h := hd t hr
  unfold slotP at h
  rw [hw] at h
  exact h
theorem wp_region_loose {P : Program} {id : Nat} {l : List Oper} {a : Act} {w : World} {Q : Exit → Act → World → Prop} (Φs : List VP) (hm : P.follows .mixedOrders = true) (hB : looseB l a.tmps.size = true)
    (hst0 : SAll Φs) (hJ : JAll P l Φs a w l Φs)
    (hQ : ∀ vs w', Below w.heap.size w w' → HAll w' l Φs vs → Q .normal (putAll a l vs) w') : (Code.region id l.toArray true).wp P Q a w := by
  have hst := SAll_mem hst0
  refine wp_region_any hm (wpAny_loose hB hst hJ hQ _ _ _ _ ⟨List.range l.length, List.nodup_range, fun i hi => ⟨by simpa using hi, ?_⟩, fun i hi _ => by simpa using hi, by simp⟩ ⟨⟨rfl, rfl, rfl, Nat.le_refl _, fun _ _ => rfl⟩, by simp, rfl, rfl, fun _ _ => rfl, fun j o Φ hj _ hl => ?_⟩)
  · simp at hi
    simp [hi]
  · have hjl := (List.getElem?_eq_some_iff.1 hj).1
    simp [hjl] at hl
end Go.Proofs.YtjghcedmlklngaaDoor
namespace Go.Proofs.YtjghcedmlklngaaDoor
open Go.RowKit Go.Sort
theorem areValues1_any (w : World) (size a : Int) (b : Nat) (h0 : 0 ≤ size) (h1 : size ≤ 1000000000000) (hc : w.cell? ⟨b, 0, none⟩ = some (.int .i64 size)) :
    Calls Tryd.prog 44 #[.int .i64 a, .pointer (some ⟨b, 0, none⟩)] w fun e w' => e = .returned (.bool (!inB a 0 (size - 1))) ∧ Below w.heap.size w w' := by
  go_enter Tryd.func44, Tryd.ntmps44
  go_wp2_with (go_at_call 45; refine (isValue_any _ _ _ h0 h1).mono ?_; rintro e w' ⟨rfl, rfl⟩)
  go_ret
  exact ⟨rfl, Below.refl _ _⟩
theorem areValues_any (w : World) {v : Value} {xs : List Int} (h : intsT.Rd w [v] xs) (size many : Int) (h0 : 0 ≤ size) (h1 : size ≤ 1000000000000) :
    Calls Tryd.prog 24 #[.int .i64 size, v, .int .i64 many] w fun e w' => e = .returned (.bool (tb (rowOk size many xs))) ∧ Below w.heap.size w w' := by
  have hx := h
  obtain ⟨ad, cap, hv, hl, hc, -⟩ := ints_ex h
  obtain rfl : v = _ := by simpa using hv
  clear h hv
  cases hn : (((xs.length : Nat) : Int) == many)
  · go_enter Tryd.func24, Tryd.ntmps24
    go_wp2_with fail
    go_ret
    exact ⟨ret_bool (tb_false (fun hr => by simp at hn; exact hn hr.1)).symm, bA⟩
  have HN : Hid ((xs.length : Int) = many) := by simpa [Hid] using hn
  have ha : (!anyB (fun a => !inB a 0 (size - 1)) xs) = tb (rowOk size many xs) := by
    rw [Bool.eq_iff_iff, tb_iff]
    simp only [anyB, rowOk, HN.out, true_and, Bool.not_eq_true', List.any_eq_false, Bool.not_eq_false, inB_true]
  have HA := Lib.hid ha
  clear ha
  go_enter Tryd.func24, Tryd.ntmps24
  go_wp2_with fail
  refine (ContainsFuncInt_any _ (hx.below bA) (fun a => !inB a 0 (size - 1)) 44 #[.pointer (some ⟨w.heap.size, 0, none⟩)] (enters Tryd.func44 (by kernel_rfl) rfl) (fun W hW k hk => areValues1_any W size xs[k] w.heap.size h0 h1 ?_)).mono ?_
  · rw [hW.cell (by simp)]; simp
  rintro e w1 ⟨rfl, hb1⟩
  go_wp2_with fail
  go_ret
  exact ⟨ret_bool HA.out, (by repeat (first | exact Below.refl _ _ | exact bA | assumption | refine Below.setCell ?_ (by first | omega | (simp; try omega)) _ | refine Below.alloc ?_ (by first | omega | (simp; try omega)) _ | refine Below.drew ?_ | refine bDN ?_ | refine bthen ?_ (by assumption)))⟩
end Go.Proofs.YtjghcedmlklngaaDoor
namespace Go.Proofs.YtjghcedmlklngaaDoor
open Go.RowKit Go.Sort
end Go.Proofs.YtjghcedmlklngaaDoor
namespace Go.Proofs.YtjghcedmlklngaaDoor
open Go.RowKit Go.Sort
end Go.Proofs.YtjghcedmlklngaaDoor
namespace Go.Proofs.YtjghcedmlklngaaDoor
open Go.RowKit Go.Sort
theorem rd_elem {α : Type} {E : Ty α} {w : World} {ad : Option Addr} {cap : Nat} {xs : List α} (h : (Ty.slice E).Rd w [.slice ad xs.length cap] xs) {k : Nat} (hk : k < xs.length) :
    ∃ b o, ad = some ⟨b, o, none⟩ ∧ E.Pt w (.pointer (some ⟨b, o + k * E.sz, none⟩)) xs[k] := by
  obtain ⟨ad', cap', hv, _, _, h3⟩ := Ty.slice_ex h
  simp only [List.cons.injEq, Value.slice.injEq, and_true] at hv
  obtain ⟨rfl, -, rfl⟩ := hv
  obtain ⟨b, o, rfl, _⟩ := h3 (by omega)
  exact ⟨b, o, rfl, pt_elem h hk⟩
theorem isAtom_any (w : World) {cs : Array Value} {a : Int × List Int} (h : opT.Rd w cs.toList a) (ar vars : Int) (h0 : 0 ≤ vars) (h1 : vars ≤ 1000000000000) :
    Calls Tryd.prog 54 #[.agg cs, .int .i64 ar, .int .i64 vars] w fun e w' => e = .returned (.bool (tb (rowOk vars ar a.2))) ∧ Below w.heap.size w w' := by
  obtain ⟨v, hv, hI, hx⟩ := pair_ex h
  obtain rfl := agg_of hv
  clear h hv
  go_enter Tryd.func54, Tryd.ntmps54
  go_wp2_with fail
  refine (areValues_any _ (hx.below bA) _ _ h0 h1).mono ?_
  rintro e w1 ⟨rfl, hb1⟩
  go_wp2_with fail
  go_ret
  exact ⟨rfl, (by repeat (first | exact Below.refl _ _ | exact bA | assumption | refine Below.setCell ?_ (by first | omega | (simp; try omega)) _ | refine Below.alloc ?_ (by first | omega | (simp; try omega)) _ | refine Below.drew ?_ | refine bDN ?_ | refine bthen ?_ (by assumption)))⟩
theorem isFrame_any (w : World) {cs : Array Value} {f : Int × Int × List (Int × List Int)} (h : frmT.Rd w cs.toList f) :
    Calls Tryd.prog 51 #[.agg cs] w fun e w' => e = .returned (.bool (tb (frameOk f))) ∧ Below w.heap.size w w' := by
  obtain ⟨v, hv, hI, hI2, hx⟩ := trip_ex h
  obtain rfl := agg_of hv
  obtain ⟨ad, cap, rfl⟩ := rd_slice hx
  clear h hv
  cases h1 : inB f.1 1 4
  · go_enter Tryd.func51, Tryd.ntmps51
    go_wp2_with (go_at_call 23; refine (isArity_any _ _).mono ?_; rintro e w' ⟨rfl, rfl⟩)
    go_ret
    exact ⟨ret_bool (tb_false (fun hr => by have := inB_true.2 hr.1; rw [h1] at this; cases this)).symm, (by repeat (first | exact Below.refl _ _ | exact bA | assumption | refine Below.setCell ?_ (by first | omega | (simp; try omega)) _ | refine Below.alloc ?_ (by first | omega | (simp; try omega)) _ | refine Below.drew ?_ | refine bDN ?_ | refine bthen ?_ (by assumption)))⟩
  cases h2 : inB f.2.1 f.1 8
  · go_enter Tryd.func51, Tryd.ntmps51
    go_wp2_with (first | (go_at_call 23; refine (isArity_any _ _).mono ?_; rintro e w' ⟨rfl, rfl⟩) | (go_at_call 22; refine (within_any _ _ _ _).mono ?_; rintro e w' ⟨rfl, rfl⟩))
    go_ret
    exact ⟨ret_bool (tb_false (fun hr => by have := inB_true.2 hr.2.1; rw [h2] at this; cases this)).symm, (by repeat (first | exact Below.refl _ _ | exact bA | assumption | refine Below.setCell ?_ (by first | omega | (simp; try omega)) _ | refine Below.alloc ?_ (by first | omega | (simp; try omega)) _ | refine Below.drew ?_ | refine bDN ?_ | refine bthen ?_ (by assumption)))⟩
  have HR : Hid (decide ((f.2.2.length : Int) ≤ 16) = tb (frameOk f)) := by
    unfold Hid
    rw [Bool.eq_iff_iff, tb_iff, decide_eq_true_iff]
    exact ⟨fun h => ⟨inB_true.1 h1, inB_true.1 h2, by omega⟩, fun h => by have := h.2.2; omega⟩
  go_enter Tryd.func51, Tryd.ntmps51
  go_wp2_with (first | (go_at_call 23; refine (isArity_any _ _).mono ?_; rintro e w' ⟨rfl, rfl⟩) | (go_at_call 22; refine (within_any _ _ _ _).mono ?_; rintro e w' ⟨rfl, rfl⟩))
  go_ret
  exact ⟨ret_bool HR.out, (by repeat (first | exact Below.refl _ _ | exact bA | assumption | refine Below.setCell ?_ (by first | omega | (simp; try omega)) _ | refine Below.alloc ?_ (by first | omega | (simp; try omega)) _ | refine Below.drew ?_ | refine bDN ?_ | refine bthen ?_ (by assumption)))⟩
theorem l01Places_any (size : Int) {v : Value} {xs : List Int} (w : World) (h : intsT.Rd w [v] xs) (h0 : 0 ≤ size) (h1 : size ≤ 1000000000000) :
    Calls Tryd.prog 39 #[v, .int .i64 size] w fun e w' => e = .returned (.bool (tb (rowOk size xs.length xs))) ∧ w = w' := by
  obtain ⟨ad, cap, hv, hl, hc, hcell⟩ := ints_ex h
  obtain rfl : v = _ := by simpa using hv
  clear h hv
  go_enter Tryd.func39, Tryd.ntmps39
  go_wp2_with fail
  go_loop [5] (fun i => ∃ k : Nat, k ≤ xs.length ∧ i = .int .i64 k ∧ noneB (fun a => !inB a 0 (size - 1)) (xs.take k)) (fun i => xs.length - (intOf i).toNat)
  case atStart => exact ⟨0, Nat.zero_le _, rfl, noneB_zero _ _⟩
  case round =>
    obtain ⟨k, hk, rfl, ht⟩ := hrel
    have HT := Lib.hid ht
    clear ht
    by_cases hlt : k < xs.length
    · obtain ⟨b, o, rfl, hb, hce⟩ := hcell (by omega)
      have hck := (hce k hlt).2
      clear hcell hce
      cases hi : inB xs[k] 0 (size - 1)
      · go_wp2_with (go_at_call 37; refine (l00In_any _ _ _ _).mono ?_; rintro e w' ⟨rfl, rfl⟩)
        go_ret
        exact ⟨ret_bool (tb_false (fun hr => by have := inB_true.2 (hr.2 _ (List.getElem_mem hlt)); rw [hi] at this; cases this)).symm, rfl⟩
      · go_wp2_with (go_at_call 37; refine (l00In_any _ _ _ _).mono ?_; rintro e w' ⟨rfl, rfl⟩)
        go_round
        case rel => exact ⟨k + 1, by omega, by go_num, noneB_succ hlt HT.out (by simp [hi])⟩
        case measure => simp [intOf]; omega
    · obtain rfl : k = xs.length := by omega
      have hall : ∀ a ∈ xs, 0 ≤ a ∧ a ≤ size - 1 := fun a ha => by
        have := HT.out a (by rw [List.take_length]; exact ha)
        simpa [inB_true] using this
      have HR : Hid (true = tb (rowOk size xs.length xs)) := (tb_true ⟨rfl, hall⟩).symm
      clear hall
      go_wp2_with fail
      go_ret
      exact ⟨ret_bool HR.out, rfl⟩
theorem l03Counts_quiet (w : World) {v : Value} {f : Int × Int × List (Int × List Int)} (h : frmT.Pt w v f) :
    Calls Tryd.prog 49 #[v] w fun e w' => e = .returned (.bool (tb (frameOk f))) ∧ Quiet w w' := by
  obtain ⟨b, o, ad, cap, rfl, hb, hI, hI2, c0, c1, c2, hx⟩ := pt_trip h
  clear h
  cases h1 : inB f.1 1 4
  · go_enter Tryd.func49, Tryd.ntmps49
    go_wp2_with fail
    have cA : ∀ n, Calls Tryd.prog 38 #[.int .i64 f.1] (w.drewN n) fun e w'' => e = .returned (.bool (inB f.1 1 4)) ∧ ∃ m, w'' = w.drewN m := fun n => (l01Arity_any _ _).mono fun e w'' ⟨he, hw⟩ => ⟨he, n, hw.symm⟩
    rw [h1] at cA
    go_quiet (exact cA _)
    go_wp2_with fail
    go_ret
    exact ⟨ret_bool (tb_false (fun hr => by have := inB_true.2 hr.1; rw [h1] at this; cases this)).symm, (by first | exact Quiet.refl _ | exact Quiet.drewN _ _ | exact (Quiet.drewN _ _).then (Quiet.drewN _ _) | exact ((Quiet.drewN _ _).then (Quiet.drewN _ _)).then (Quiet.drewN _ _))⟩
  have cA : ∀ n, Calls Tryd.prog 38 #[.int .i64 f.1] (w.drewN n) fun e w'' => e = .returned (.bool (inB f.1 1 4)) ∧ ∃ m, w'' = w.drewN m := fun n => (l01Arity_any _ _).mono fun e w'' ⟨he, hw⟩ => ⟨he, n, hw.symm⟩
  have cI : ∀ n, Calls Tryd.prog 37 #[.int .i64 f.2.1, .int .i64 f.1, .int .i64 8] (w.drewN n) fun e w'' => e = .returned (.bool (inB f.2.1 f.1 8)) ∧ ∃ m, w'' = w.drewN m := fun n => (l00In_any _ _ _ _).mono fun e w'' ⟨he, hw⟩ => ⟨he, n, hw.symm⟩
  rw [h1] at cA
  cases h2 : inB f.2.1 f.1 8
  · rw [h2] at cI
    go_enter Tryd.func49, Tryd.ntmps49
    go_wp2_with fail
    go_quiet (first | exact cA _ | exact cI _)
    go_wp2_with fail
    go_ret
    exact ⟨ret_bool (tb_false (fun hr => by have := inB_true.2 hr.2.1; rw [h2] at this; cases this)).symm, (by first | exact Quiet.refl _ | exact Quiet.drewN _ _ | exact (Quiet.drewN _ _).then (Quiet.drewN _ _) | exact ((Quiet.drewN _ _).then (Quiet.drewN _ _)).then (Quiet.drewN _ _))⟩
  have HR : Hid (decide ((f.2.2.length : Int) ≤ 16) = tb (frameOk f)) := by
    unfold Hid
    rw [Bool.eq_iff_iff, tb_iff, decide_eq_true_iff]
    exact ⟨fun h => ⟨inB_true.1 h1, inB_true.1 h2, by omega⟩, fun h => by have := h.2.2; omega⟩
  rw [h2] at cI
  go_enter Tryd.func49, Tryd.ntmps49
  go_wp2_with fail
  go_quiet (first | exact cA _ | exact cI _)
  go_wp2_with fail
  go_ret
  exact ⟨ret_bool HR.out, (by first | exact Quiet.refl _ | exact Quiet.drewN _ _ | exact (Quiet.drewN _ _).then (Quiet.drewN _ _) | exact ((Quiet.drewN _ _).then (Quiet.drewN _ _)).then (Quiet.drewN _ _))⟩
end Go.Proofs.YtjghcedmlklngaaDoor
namespace Go.Proofs.YtjghcedmlklngaaDoor
theorem cellB {B b o : Nat} {w w' : World} (hb : RowKit.Below B w w') (h : b < B) : w'.cell? ⟨b, o, none⟩ = w.cell? ⟨b, o, none⟩ := hb.cell (p := ⟨b, o, none⟩) h
theorem frozenB {B b o : Nat} {w w' : World} (hb : RowKit.Below B w w') (h : b < B) : w'.frozen? ⟨b, o, none⟩ = w.frozen? ⟨b, o, none⟩ := hb.frozen (p := ⟨b, o, none⟩) h


section
variable {P : Program} {ops : Array Oper} {Q : Exit → Act → World → Prop} {md : Region.Mode} {S : World → Prop} {tail : List Nat}

/-- one of the last writes has come up -/
def pastB (tail : List Nat) (listed : Array Bool) : Bool := tail.any fun t => listed.getD t false

def wpAnyT (P : Program) (md : Region.Mode) (ops : Array Oper) (Q : Exit → Act → World → Prop) (S : World → Prop) (tail : List Nat) : Nat → Array Bool → Act → World → Prop
  | 0, listed, a, w => Region.ready md ops listed = [] ∧ Q .normal a w
  | fuel + 1, listed, a, w =>
    (Region.ready md ops listed = [] → Q .normal a w) ∧
    ∀ i ∈ Region.ready md ops listed, wpOp P ops Q i (fun a' w' => (pastB tail (listed.setIfInBounds i true) = false → S w') ∧ wpAnyT P md ops Q S tail fuel (listed.setIfInBounds i true) a' w') a w

theorem wpAny_of_T : ∀ (fuel : Nat) (listed : Array Bool) (a : Act) (w : World), wpAnyT P md ops Q S tail fuel listed a w → wpAny P md ops Q fuel listed a w
  | 0, _, _, _, h => h
  | fuel + 1, _, _, _, h => ⟨h.1, fun i hi => wpOp_mono (fun a' w' h' => wpAny_of_T fuel _ a' w' h'.2) (h.2 i hi)⟩

/-- what can come up while number i has not: all that are in R -/
def lowB (md : Region.Mode) (ops : Array Oper) (i : Nat) (listed R : Array Bool) (tail : List Nat) : Bool :=
  ((List.range ops.size).all fun k => k == i || R.getD k false || match ops[k]? with
    | some o => o.after.any fun e => Region.binds md e && !R.getD e.on false
    | none => true) && ((List.range ops.size).all fun k => !listed.getD k false || R.getD k false) && tail.all fun t => !R.getD t false && decide (t < ops.size) && t != i
/-- these -/
def grow1 (md : Region.Mode) (ops : Array Oper) (i : Nat) (R : Array Bool) : Array Bool :=
  (Array.range ops.size).map fun k => R.getD k false || (k != i && match ops[k]? with
    | some o => o.after.all fun e => !Region.binds md e || R.getD e.on false
    | none => false)
def lowSet (md : Region.Mode) (ops : Array Oper) (i : Nat) (listed : Array Bool) : Nat → Array Bool
  | 0 => listed
  | n + 1 => grow1 md ops i (lowSet md ops i listed n)
def lateB (md : Region.Mode) (ops : Array Oper) (i : Nat) (listed : Array Bool) (tail : List Nat) : Bool := lowB md ops i listed (lowSet md ops i listed ops.size) tail

structure Low (md : Region.Mode) (ops : Array Oper) (i : Nat) (R : Array Bool) (tail : List Nat) : Prop where
  up : ∀ (k : Nat) (o : Oper), ops[k]? = some o → k ≠ i → (∀ e ∈ o.after, Region.binds md e = true → R.getD e.on false = true) → R.getD k false = true
  out : ∀ t ∈ tail, R.getD t false = false
  ne : ∀ t ∈ tail, t ≠ i
theorem lowB_spec {i : Nat} {listed R : Array Bool} (h : lowB md ops i listed R tail = true) : Low md ops i R tail ∧ ∀ k, k < ops.size → listed.getD k false = true → R.getD k false = true := by
  unfold lowB at h
  simp only [Bool.and_eq_true, List.all_eq_true, List.mem_range] at h
  obtain ⟨⟨h1, h2⟩, h3⟩ := h
  refine ⟨⟨fun k o ho hk hd => ?_, fun t ht => by have := (h3 t ht).1.1; simpa using this, fun t ht => by have := (h3 t ht).2; simpa using this⟩, fun k hk hl => ?_⟩
  · have hks : k < ops.size := by
      rcases Nat.lt_or_ge k ops.size with h' | h'
      · exact h'
      · rw [Array.getElem?_eq_none h'] at ho; cases ho
    have := h1 k hks
    rw [ho] at this
    simp only [Bool.or_eq_true, beq_iff_eq] at this
    rcases this with (rfl | h') | h'
    · exact absurd rfl hk
    · exact h'
    · simp only [Array.any_eq_true, Bool.and_eq_true, Bool.not_eq_true'] at h'
      obtain ⟨x, hx, hb⟩ := h'
      rw [hd _ (Array.getElem_mem hx) hb.1] at hb
      cases hb.2
  · have := h2 k hk
    rw [hl] at this
    simpa using this

theorem low_step {i j : Nat} {listed R : Array Bool} (hL : Low md ops i R tail) (hsub : ∀ k, k < ops.size → listed.getD k false = true → R.getD k false = true) (hbd : ∀ (k : Nat) (o : Oper), ops[k]? = some o → ∀ e ∈ o.after, Region.binds md e = true → e.on < ops.size)
    (hj : j ∈ Region.ready md ops listed) (hji : j ≠ i) : R.getD j false = true ∧ ∀ k, k < ops.size → (listed.setIfInBounds j true).getD k false = true → R.getD k false = true := by
  obtain ⟨-, oj, hoj, hall⟩ := mem_ready.1 hj
  have hR : R.getD j false = true := hL.up j oj hoj hji fun e he hb => hsub e.on (hbd j oj hoj e he hb) (hall e he hb)
  refine ⟨hR, fun k hk hl => ?_⟩
  by_cases e : j = k
  · subst e; exact hR
  · rw [getD_set_ne false e] at hl; exact hsub k hk hl

theorem past_false {R listed : Array Bool} {i : Nat} (hL : Low md ops i R tail) (ht : ∀ t ∈ tail, t < ops.size) (hsub : ∀ k, k < ops.size → listed.getD k false = true → R.getD k false = true) : pastB tail listed = false := by
  unfold pastB
  rw [List.any_eq_false]
  intro t htl hh
  have := hsub t (ht t htl) hh
  rw [hL.out t htl] at this
  cases this

theorem wpAnyT_first {i : Nat} {oi : Oper} {v : Value} (hi : ops[i]? = some oi) (hsel : ∀ (j : Nat) (o : Oper) cs b, ops[j]? = some o → o.op ≠ .select cs b)
    (hQ : ∀ c a w, Q (.panic c) (a.put oi.dst v) w → Q (.panic c) a w) {R : Array Bool} (hL : Low md ops i R tail) (ht : ∀ t ∈ tail, t < ops.size) (hbd : ∀ (k : Nat) (o : Oper), ops[k]? = some o → ∀ e ∈ o.after, Region.binds md e = true → e.on < ops.size) :
    ∀ (fuel : Nat) (listed : Array Bool) (a : Act) (w : World),
      (∀ j oj, ops[j]? = some oj → j ≠ i → listed.getD j true = false → (∀ e ∈ oj.after, Region.binds md e = true → e.on ≠ i) → oi.apart ops oj = true) →
      i ∈ Region.ready md ops listed → YieldsIf P ops S oi v a → S w → (∀ k, k < ops.size → listed.getD k false = true → R.getD k false = true) →
      wpAnyT P md ops Q S tail fuel (listed.setIfInBounds i true) (a.put oi.dst v) w → wpAnyT P md ops Q S tail (fuel + 1) listed a w := by
  intro fuel
  induction fuel with
  | zero =>
    intro listed a w _ hr hy hS hsub H
    refine ⟨fun h => (by rw [h] at hr; cases hr), fun j hj => ?_⟩
    by_cases hji : j = i
    · subst hji; exact hy.wpOp hi hS ⟨fun _ => hS, H⟩
    · have := ready_mono hj hji
      rw [H.1] at this
      cases this
  | succ fuel ih =>
    intro listed a w hfree hr hy hS hsub H
    refine ⟨fun h => (by rw [h] at hr; cases hr), fun j hj => ?_⟩
    by_cases hji : j = i
    · subst hji; exact hy.wpOp hi hS ⟨fun _ => hS, H⟩
    · have h1 := H.2 j (ready_mono hj hji)
      obtain ⟨hjun, oj, hoj, hall⟩ := mem_ready.1 hj
      have hnot : ∀ e ∈ oj.after, Region.binds md e = true → e.on ≠ i := fun e he hb heq => by
        have h1 := hall e he hb
        have h0 := (mem_ready.1 hr).1
        rw [heq] at h1
        rcases Nat.lt_or_ge i listed.size with h' | h'
        · simp [h'] at h0 h1; rw [h0] at h1; cases h1
        · simp [Array.getElem?_eq_none h'] at h1
      have h2 := wpOp_putIf hoj (hfree j oj hoj hji hjun hnot) (fun cs b => hsel i oi cs b hi) (fun cs b => hsel j oj cs b hoj) hQ hy h1
      have hfree' : ∀ k ok, ops[k]? = some ok → k ≠ i → (listed.setIfInBounds j true).getD k true = false →
          (∀ e ∈ ok.after, Region.binds md e = true → e.on ≠ i) → oi.apart ops ok = true := fun k ok hk hki hun hno => by
        refine hfree k ok hk hki ?_ hno
        by_cases hjk : j = k
        · subst hjk; exact hjun
        · rw [getD_set_ne true hjk] at hun; exact hun
      obtain ⟨-, hsub'⟩ := low_step hL hsub hbd hj hji
      have hp : pastB tail ((listed.setIfInBounds i true).setIfInBounds j true) = false := by
        have h0 := past_false hL ht hsub'
        rw [Array.setIfInBounds_comm _ _ (Ne.symm hji)]
        unfold pastB at h0 ⊢
        rw [List.any_eq_false] at h0 ⊢
        intro t htl hh
        rw [getD_set_ne false (Ne.symm (hL.ne t htl))] at hh
        exact h0 t htl hh
      refine wpOp_mono (fun a' w' h3 => ⟨fun _ => h3.2.1 hp, ih (listed.setIfInBounds j true) a' w' hfree' (ready_mono hr (Ne.symm hji)) h3.1 (h3.2.1 hp) hsub' ?_⟩) h2
      rw [Array.setIfInBounds_comm _ _ hji]
      exact h3.2.2

/-- every edge leads to an operation -/
def edgesB (md : Region.Mode) (ops : Array Oper) : Bool := ops.all fun o => o.after.all fun e => !Region.binds md e || decide (e.on < ops.size)
theorem edgesB_spec (h : edgesB md ops = true) : ∀ (k : Nat) (o : Oper), ops[k]? = some o → ∀ e ∈ o.after, Region.binds md e = true → e.on < ops.size := by
  intro k o ho e he hb
  have h1 := Array.all_eq_true_iff_forall_mem.1 h o (Array.mem_of_getElem? ho)
  have h2 := Array.all_eq_true_iff_forall_mem.1 h1 e he
  simpa [hb] using h2

/-- take number i first -/
theorem wpAnyT_take {i : Nat} {oi : Oper} {v : Value} {fuel : Nat} {listed : Array Bool} {a : Act} {w : World} (hi : ops[i]? = some oi)
    (hs : (Region.noSelect ops && edgesB md ops && Region.free md ops listed i && (Region.ready md ops listed).contains i && lateB md ops i listed tail) = true)
    (hQ : ∀ c a w, Q (.panic c) (a.put oi.dst v) w → Q (.panic c) a w) (hy : YieldsIf P ops S oi v a) (hS : S w)
    (h : wpAnyT P md ops Q S tail fuel (listed.setIfInBounds i true) (a.put oi.dst v) w) : wpAnyT P md ops Q S tail (fuel + 1) listed a w := by
  simp only [Bool.and_eq_true] at hs
  obtain ⟨⟨⟨⟨s1, s2⟩, s3⟩, s4⟩, s5⟩ := hs
  obtain ⟨hL, hsub⟩ := lowB_spec s5
  have ht : ∀ t ∈ tail, t < ops.size := fun t ht => by
    unfold lateB lowB at s5
    simp only [Bool.and_eq_true, List.all_eq_true] at s5
    simpa using (s5.2 t ht).1.2
  exact wpAnyT_first hi (Region.noSelect_spec s1) hQ hL ht (edgesB_spec s2) fuel listed a w (Region.free_spec hi s3) (by simpa using s4) hy hS hsub h

/-- what yields in whatever world: taken first, also where the condition holds no more -/
theorem wpAnyT_free {i : Nat} {oi : Oper} {v : Value} (hi : ops[i]? = some oi) (hsel : ∀ (j : Nat) (o : Oper) cs b, ops[j]? = some o → o.op ≠ .select cs b)
    (hQ : ∀ c a w, Q (.panic c) (a.put oi.dst v) w → Q (.panic c) a w) (hti : i ∉ tail) :
    ∀ (fuel : Nat) (listed : Array Bool) (a : Act) (w : World),
      (∀ j oj, ops[j]? = some oj → j ≠ i → listed.getD j true = false → (∀ e ∈ oj.after, Region.binds md e = true → e.on ≠ i) → oi.apart ops oj = true) →
      i ∈ Region.ready md ops listed → YieldsIf P ops (fun _ => True) oi v a → (pastB tail listed = false → S w) →
      wpAnyT P md ops Q S tail fuel (listed.setIfInBounds i true) (a.put oi.dst v) w → wpAnyT P md ops Q S tail (fuel + 1) listed a w := by
  have hpi : ∀ L : Array Bool, pastB tail (L.setIfInBounds i true) = pastB tail L := fun L => by
    unfold pastB
    rw [Bool.eq_iff_iff]
    simp only [List.any_eq_true]
    constructor
    · rintro ⟨t, h1, h2⟩; exact ⟨t, h1, by rwa [getD_set_ne false (show i ≠ t from fun e => hti (by rw [e]; exact h1))] at h2⟩
    · rintro ⟨t, h1, h2⟩; exact ⟨t, h1, by rwa [getD_set_ne false (show i ≠ t from fun e => hti (by rw [e]; exact h1))]⟩
  intro fuel
  induction fuel with
  | zero =>
    intro listed a w _ hr hy hS H
    refine ⟨fun h => (by rw [h] at hr; cases hr), fun j hj => ?_⟩
    by_cases hji : j = i
    · subst hji; exact hy.wpOp hi trivial ⟨fun hp => hS (by rw [← hpi]; exact hp), H⟩
    · have := ready_mono hj hji
      rw [H.1] at this
      cases this
  | succ fuel ih =>
    intro listed a w hfree hr hy hS H
    refine ⟨fun h => (by rw [h] at hr; cases hr), fun j hj => ?_⟩
    by_cases hji : j = i
    · subst hji; exact hy.wpOp hi trivial ⟨fun hp => hS (by rw [← hpi]; exact hp), H⟩
    · have h1 := H.2 j (ready_mono hj hji)
      obtain ⟨hjun, oj, hoj, hall⟩ := mem_ready.1 hj
      have hnot : ∀ e ∈ oj.after, Region.binds md e = true → e.on ≠ i := fun e he hb heq => by
        have h1 := hall e he hb
        have h0 := (mem_ready.1 hr).1
        rw [heq] at h1
        rcases Nat.lt_or_ge i listed.size with h' | h'
        · simp [h'] at h0 h1; rw [h0] at h1; cases h1
        · simp [Array.getElem?_eq_none h'] at h1
      have h2 := wpOp_putIf hoj (hfree j oj hoj hji hjun hnot) (fun cs b => hsel i oi cs b hi) (fun cs b => hsel j oj cs b hoj) hQ hy h1
      have hfree' : ∀ k ok, ops[k]? = some ok → k ≠ i → (listed.setIfInBounds j true).getD k true = false →
          (∀ e ∈ ok.after, Region.binds md e = true → e.on ≠ i) → oi.apart ops ok = true := fun k ok hk hki hun hno => by
        refine hfree k ok hk hki ?_ hno
        by_cases hjk : j = k
        · subst hjk; exact hjun
        · rw [getD_set_ne true hjk] at hun; exact hun
      refine wpOp_mono (fun a' w' h3 => ⟨fun hp => h3.2.1 (by rw [Array.setIfInBounds_comm _ _ (Ne.symm hji), hpi]; exact hp), ih (listed.setIfInBounds j true) a' w' hfree' (ready_mono hr (Ne.symm hji)) h3.1 (fun hp => h3.2.1 (by rw [Array.setIfInBounds_comm _ _ (Ne.symm hji), hpi]; exact hp)) ?_⟩) h2
      rw [Array.setIfInBounds_comm _ _ hji]
      exact h3.2.2
theorem wpAnyT_any {i : Nat} {oi : Oper} {v : Value} {fuel : Nat} {listed : Array Bool} {a : Act} {w : World} (hi : ops[i]? = some oi)
    (hs : (Region.noSelect ops && Region.free md ops listed i && (Region.ready md ops listed).contains i && !tail.contains i) = true)
    (hQ : ∀ c a w, Q (.panic c) (a.put oi.dst v) w → Q (.panic c) a w) (hy : YieldsIf P ops (fun _ => True) oi v a) (hS : pastB tail listed = false → S w)
    (h : wpAnyT P md ops Q S tail fuel (listed.setIfInBounds i true) (a.put oi.dst v) w) : wpAnyT P md ops Q S tail (fuel + 1) listed a w := by
  simp only [Bool.and_eq_true] at hs
  obtain ⟨⟨⟨s1, s2⟩, s3⟩, s4⟩ := hs
  exact wpAnyT_free hi (Region.noSelect_spec s1) hQ (by simpa using s4) fuel listed a w (Region.free_spec hi s2) (by simpa using s3) hy hS h

/-- one alone may come up: not one of the last -/
theorem wpAnyT_one {i : Nat} {o : Oper} {fuel : Nat} {listed : Array Bool} {a : Act} {w : World} (ho : ops[i]? = some o) (hr : Region.ready md ops listed = [i])
    (h : ∀ K' : Act → World → Prop, Shut (∀ a w, S w → (S w → wpAnyT P md ops Q S tail fuel (listed.setIfInBounds i true) a w) → K' a w) → if Region.wanted o (yielded ops a.tmps) = true then Oper.wp P o a w K' Q else K' (a.put o.dst undef) w) :
    wpAnyT P md ops Q S tail (fuel + 1) listed a w := by
  refine ⟨fun h0 => (by rw [h0] at hr; cases hr), fun j hj => ?_⟩
  rw [hr] at hj
  obtain rfl : j = i := by simpa using hj
  exact wpOp_step ho (fun K' hK => h K' (fun a w hS hW => hK a w ⟨fun _ => hS, hW hS⟩))
/-- one alone may come up: one of the last, or behind them -/
theorem wpAnyT_last {i : Nat} {o : Oper} {fuel : Nat} {listed : Array Bool} {a : Act} {w : World} (ho : ops[i]? = some o) (hr : Region.ready md ops listed = [i]) (hp : pastB tail (listed.setIfInBounds i true) = true)
    (h : ∀ K' : Act → World → Prop, Shut (∀ a w, wpAnyT P md ops Q S tail fuel (listed.setIfInBounds i true) a w → K' a w) → if Region.wanted o (yielded ops a.tmps) = true then Oper.wp P o a w K' Q else K' (a.put o.dst undef) w) :
    wpAnyT P md ops Q S tail (fuel + 1) listed a w := by
  refine ⟨fun h0 => (by rw [h0] at hr; cases hr), fun j hj => ?_⟩
  rw [hr] at hj
  obtain rfl : j = i := by simpa using hj
  exact wpOp_step ho (fun K' hK => h K' (fun a w hW => hK a w ⟨fun h => (by rw [hp] at h; cases h), hW⟩))
theorem wpAnyT_done {listed : Array Bool} {a : Act} {w : World} (hr : Region.ready md ops listed = []) (h : Q .normal a w) :
    ∀ fuel, wpAnyT P md ops Q S tail fuel listed a w
  | 0 => ⟨hr, h⟩
  | _ + 1 => ⟨fun _ => h, by rw [hr]; simp⟩
theorem wp_region_T (S : World → Prop) (tail : List Nat) {id : Nat} {a : Act} {w : World} (hm : P.follows .mixedOrders = true) (hS : S w.drew)
    (h : S w.drew → wpAnyT P .any ops Q S tail ops.size (Array.replicate ops.size false) a w.drew) : (Code.region id ops true).wp P Q a w :=
  wp_region_any hm (wpAny_of_T _ _ _ _ (h hS))
end
end Go.Proofs.YtjghcedmlklngaaDoor
