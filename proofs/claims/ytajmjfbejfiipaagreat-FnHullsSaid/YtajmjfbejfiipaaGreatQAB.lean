/-
Plain mathematics: the order of lists, valid relations and templates. No program is named here.
A region that draws its order, whose operations read, compute, and call functions that make new memory: one account serves every order. Of each operation's value only a predicate is told (a copy lies somewhere in new memory), and it must outlast new memory. No program is named here.
Contracts: lists of values, valid relations and templates, in the program and in the reference.
Contracts of the laws' own helpers: sz.. (how much an argument holds), to.. (a deep copy in new memory), eq.. (deep equality): by program (gen_laws.py), one text a make of type.
Contracts: powers, indices of lists, lists of indices.
Contracts: the list of an index.
Contracts: valid relations and templates, in the program and in the reference.
Contracts: valid relations and templates (the program's), valid templates (the reference's).
Contracts: what a number of a relation tells; atoms' places; counts of formulas.
-/
import Derived.Test.YtajmjfbejfiipaaGreatQAA
import Derived.Lib.QuietBelow
import Derived.Laws.OwnMore
namespace Go.Proofs.YtajmjfbejfiipaaGreat

/-- a proposition as a test -/
noncomputable def tb (p : Prop) : Bool := @decide p (Classical.propDecidable p)
theorem tb_true {p : Prop} (h : p) : tb p = true := by simp [tb, h]
theorem tb_false {p : Prop} (h : ¬ p) : tb p = false := by simp [tb, h]
theorem tb_iff {p : Prop} : tb p = true ↔ p := by simp [tb]
theorem tb_congr {p q : Prop} (h : p ↔ q) : tb p = tb q := by rw [propext h]
theorem tb_not {p : Prop} : (!tb p) = tb (¬ p) := by cases h : tb p <;> simp [tb] at * <;> exact h
def cmpI (x y : Int) : Int := if x < y then -1 else if y < x then 1 else 0
theorem cmpI_lt {x y : Int} (h : x < y) : cmpI x y = -1 := if_pos h
theorem cmpI_gt {x y : Int} (h : y < x) : cmpI x y = 1 := by unfold cmpI; rw [if_neg (by omega), if_pos h]
theorem cmpI_eq {x y : Int} (h : x = y) : cmpI x y = 0 := by unfold cmpI; rw [if_neg (by omega), if_neg (by omega)]
/-- the order of lists -/
def cmpL : List Int → List Int → Int
 | [], [] => 0
 | [], _ :: _ => -1
 | _ :: _, [] => 1
 | x :: xs, y :: ys => if x = y then cmpL xs ys else cmpI x y
def ltL (xs ys : List Int) : Prop := cmpL xs ys < 0
theorem cmpL_self : ∀ xs : List Int, cmpL xs xs = 0
 | [] => rfl
 | x :: xs => by simp [cmpL, cmpL_self xs]
theorem cmpL_drop {xs ys : List Int} : ∀ {k : Nat}, xs.take k = ys.take k → cmpL xs ys = cmpL (xs.drop k) (ys.drop k) := by
 induction xs generalizing ys with
 | nil =>
  intro k h
  cases k with
  | zero => rfl
  | succ k => cases ys with
   | nil => simp
   | cons y ys => simp at h
 | cons x xs ih =>
  intro k h
  cases k with
  | zero => rfl
  | succ k => cases ys with
   | nil => simp at h
   | cons y ys =>
    simp only [List.take_succ_cons, List.cons.injEq] at h
    obtain ⟨rfl, h⟩ := h
    simp only [cmpL, if_true, List.drop_succ_cons]
    exact ih h
theorem cmpL_ne {xs ys : List Int} {k : Nat} (h : xs.take k = ys.take k) (h1 : k < xs.length) (h2 : k < ys.length) (hne : xs[k] ≠ ys[k]) : cmpL xs ys = cmpI xs[k] ys[k] := by
 rw [cmpL_drop h, List.drop_eq_getElem_cons h1, List.drop_eq_getElem_cons h2, cmpL, if_neg hne]
theorem cmpL_more {xs ys : List Int} (h : xs.take ys.length = ys) (h1 : ys.length < xs.length) : cmpL xs ys = 1 := by
 rw [cmpL_drop (k := ys.length) (by rw [h, List.take_length]), List.drop_eq_getElem_cons h1, List.drop_length, cmpL]
theorem cmpL_less {xs ys : List Int} (h : xs = ys.take xs.length) (h1 : xs.length < ys.length) : cmpL xs ys = -1 := by
 rw [cmpL_drop (k := xs.length) (by rw [List.take_length]; exact h), List.drop_eq_getElem_cons h1, List.drop_length, cmpL]

/-- so many values of a size -/
def rowOk (size ar : Int) (t : List Int) : Prop := (t.length : Int) = ar ∧ ∀ a ∈ t, 0 ≤ a ∧ a ≤ size - 1
def sizeOk (size : Int) : Prop := 1 ≤ size ∧ size ≤ 4
def relOk (size : Int) (r : Int × List (List Int)) : Prop :=
 sizeOk size ∧ sizeOk r.1 ∧ ∀ i (h : i < r.2.length), rowOk size r.1 r.2[i] ∧ (0 < i → ltL (r.2[i - 1]'(by omega)) r.2[i])
/-- as far as place k -/
def relUp (size : Int) (r : Int × List (List Int)) (k : Nat) : Prop := ∀ i (h : i < r.2.length), i < k → rowOk size r.1 r.2[i] ∧ (0 < i → ltL (r.2[i - 1]'(by omega)) r.2[i])
theorem relUp_zero (size : Int) (r : Int × List (List Int)) : relUp size r 0 := fun i _ h => absurd h (Nat.not_lt_zero i)
theorem relUp_succ {size : Int} {r : Int × List (List Int)} {k : Nat} (h : k < r.2.length) (hu : relUp size r k) (h1 : rowOk size r.1 r.2[k]) (h2 : 0 < k → ltL (r.2[k - 1]'(by omega)) r.2[k]) : relUp size r (k + 1) := fun i hi hlt => by
 by_cases e : i = k
 ·subst e; exact ⟨h1, h2⟩
 ·exact hu i hi (by omega)
def tplOk (t : Int × List (Int × List (List Int))) : Prop := sizeOk t.1 ∧ t.2.length ≤ 6 ∧ ∀ r ∈ t.2, relOk t.1 r
/-- the arity that a number tells in a template: -1 stands for equality -/
def arOf (t : Int × List (Int × List (List Int))) (rel : Int) : Int :=
 if rel = -1 then 2 else if h : 0 ≤ rel ∧ rel.toNat < t.2.length then (t.2[rel.toNat]).1 else 0
theorem arOf_eq (t : Int × List (Int × List (List Int))) : arOf t (-1) = 2 := by simp [arOf]
theorem arOf_nat {t : Int × List (Int × List (List Int))} {k : Nat} (h : k < t.2.length) : arOf t (k : Int) = (t.2[k]).1 := by
 unfold arOf
 rw [if_neg (by omega), dif_pos ⟨by omega, by simpa using h⟩]
 simp
theorem arOf_no {t : Int × List (Int × List (List Int))} {rel : Int} (h1 : rel ≠ -1) (h : inB rel 0 ((t.2.length : Int) - 1) = false) : arOf t rel = 0 := by
 unfold arOf
 rw [if_neg h1, dif_neg]
 rw [inB_false] at h
 omega
def atomOk (t : Int × List (Int × List (List Int))) (vars : Int) (a : Int × List Int) : Prop := arOf t a.1 ≠ 0 ∧ rowOk vars (arOf t a.1) a.2
def frameOk (f : Int × Int × List (Int × List Int)) : Prop := (1 ≤ f.1 ∧ f.1 ≤ 4) ∧ (f.1 ≤ f.2.1 ∧ f.2.1 ≤ 8) ∧ f.2.2.length ≤ 16
def frmOk (t : Int × List (Int × List (List Int))) (f : Int × Int × List (Int × List Int)) : Prop := tplOk t ∧ frameOk f ∧ ∀ a ∈ f.2.2, atomOk t f.2.1 a
end Go.Proofs.YtajmjfbejfiipaaGreat
namespace Go.Proofs.YtajmjfbejfiipaaGreat
open Go.RowKit

abbrev VP := Value → World → Prop

def looseUpon (P : Program) (w : World) (Φ : VP) : Result Next → Prop
 | .ok (.value v) w' => Below w.heap.size w w' ∧ Φ v w'
 | .ok .skip w' => Below w.heap.size w w' ∧ Φ undef w'
 | .ok (.enter f args) w' => Below w.heap.size w w' ∧ Calls P f args w' fun e w'' => ∃ v, e = .returned v ∧ Below w'.heap.size w' w'' ∧ Φ v w''
 | _ => False

def writer : List Oper → List VP → Tmp → Option VP
 | o :: l, Φ :: Φs, t => if o.dst = some t then some Φ else writer l Φs t
 | _, _, _ => none

def slotP (l : List Oper) (Φs : List VP) (a : Act) (t : Tmp) : VP := match writer l Φs t with
 | some Φ => Φ
 | none => fun v _ => v = a.eval (.tmp t)

def readsB (o : Oper) (t : Tmp) : Bool := o.op.operands.toList.any fun x => match x with | .tmp s => s == t | _ => false

def JAt (P : Program) (l : List Oper) (Φs : List VP) (a : Act) (w : World) (o : Oper) (Φ : VP) : Prop :=
 ∀ (a' : Act) (w' : World), Below w.heap.size w w' → (∀ t, readsB o t = true → slotP l Φs a t (a'.eval (.tmp t)) w') → looseUpon P w' Φ ((execOp a'.eval o).run P w')

def JAll (P : Program) (l : List Oper) (Φs : List VP) (a : Act) (w : World) : List Oper → List VP → Prop
 | o :: r, Φ :: Φr => JAt P l Φs a w o Φ ∧ JAll P l Φs a w r Φr
 | [], [] => True
 | _, _ => False

def putAll (a : Act) : List Oper → List Value → Act
 | o :: l, v :: vs => putAll (a.put o.dst v) l vs
 | _, _ => a

def HAll (w : World) : List Oper → List VP → List Value → Prop
 | o :: l, Φ :: Φs, v :: vs => (o.dst.isSome = true → Φ v w) ∧ HAll w l Φs vs
 | [], [], [] => True
 | _, _, _ => False

/-- no guards; each edge leads back; every slot that an operation names and that another one writes is written by one that it waits for; no slot is written twice; all slots lie in the frame -/
def looseB (l : List Oper) (n : Nat) : Bool :=
 l.zipIdx.all fun (o, i) => o.guard.isNone && o.after.toList.all (fun e => !Region.binds .any e || decide (e.on < i)) && (match o.dst with | some d => decide (d < n) | none => true) &&
  l.zipIdx.all fun (q, j) => match q.dst with
   | none => true
   | some d => (o.op.operands.toList.all fun x => match x with
     | .tmp t => t != d || o.after.toList.any (fun e => e.on == j && Region.binds .any e)
     | _ => true) && (i == j || o.dst != some d)

theorem writer_some {l : List Oper} {Φs : List VP} {t : Tmp} {Φ : VP} (h : writer l Φs t = some Φ) : ∃ (j : Nat) (o : Oper), l[j]? = some o ∧ o.dst = some t ∧ Φs[j]? = some Φ := by
 induction l generalizing Φs with
 | nil => simp [writer] at h
 | cons o l ih =>
  cases Φs with
  | nil => simp [writer] at h
  | cons Φ' Φs =>
   simp only [writer] at h
   split at h
   ·rename_i hd
    exact ⟨0, o, rfl, hd, h⟩
   ·obtain ⟨j, o', h1, h2, h3⟩ := ih h
    exact ⟨j + 1, o', h1, h2, h3⟩
theorem writer_none {l : List Oper} {Φs : List VP} {t : Tmp} (hl : l.length = Φs.length) (h : writer l Φs t = none) : ∀ (j : Nat) (o : Oper), l[j]? = some o → o.dst ≠ some t := by
 induction l generalizing Φs with
 | nil => intro j o h; simp at h
 | cons q l ih =>
  cases Φs with
  | nil => simp at hl
  | cons Φ' Φs =>
   simp only [writer] at h
   split at h
   ·cases h
   ·rename_i hd
    intro j o ho
    match j with
    | 0 => simp at ho; subst ho; exact hd
    | j + 1 => exact ih (by simpa using hl) h j o (by simpa using ho)

theorem JAll_len {P : Program} {l : List Oper} {Φs : List VP} {a : Act} {w : World} : ∀ {r : List Oper} {Φr : List VP}, JAll P l Φs a w r Φr → r.length = Φr.length
 | [], [], _ => rfl
 | _ :: _, _ :: _, h => by simp [JAll_len h.2]
 | [], _ :: _, h => by cases h
 | _ :: _, [], h => by cases h
theorem JAll_get {P : Program} {l : List Oper} {Φs : List VP} {a : Act} {w : World} : ∀ {r : List Oper} {Φr : List VP}, JAll P l Φs a w r Φr → ∀ {i : Nat} {o : Oper} {Φ : VP}, r[i]? = some o → Φr[i]? = some Φ → JAt P l Φs a w o Φ
 | [], _, _, i, o, Φ, h, _ => by simp at h
 | q :: r, [], h, _, _, _, _, _ => by cases h
 | q :: r, Φ' :: Φr, hj, i, o, Φ, h, h' => by
  match i with
  | 0 => simp at h h'; subst h; subst h'; exact hj.1
  | i + 1 => exact JAll_get hj.2 (by simpa using h) (by simpa using h')

/-- where the region stands -/
structure LInv (l : List Oper) (Φs : List VP) (a : Act) (w : World) (listed : Array Bool) (a' : Act) (w' : World) : Prop where
 below : Below w.heap.size w w'
 size : listed.size = l.length
 defers : a'.defers = a.defers
 tsize : a'.tmps.size = a.tmps.size
 old : ∀ t, (∀ (j : Nat) (o : Oper), l[j]? = some o → o.dst = some t → listed.getD j false = false) → a'.tmps[t]? = a.tmps[t]?
 new : ∀ (j : Nat) (o : Oper) (Φ : VP), l[j]? = some o → Φs[j]? = some Φ → listed.getD j false = true → ∀ d, o.dst = some d → Φ (a'.eval (.tmp d)) w'

theorem looseB_spec {l : List Oper} {n : Nat} (h : looseB l n = true) {i : Nat} {o : Oper} (hi : l[i]? = some o) :
  o.guard = none ∧ (∀ e ∈ o.after, Region.binds .any e = true → e.on < i) ∧ (∀ d, o.dst = some d → d < n) ∧
  ∀ (j : Nat) (q : Oper) (d : Tmp), l[j]? = some q → q.dst = some d → (Operand.tmp d ∈ o.op.operands.toList → ∃ e ∈ o.after, e.on = j ∧ Region.binds .any e = true) ∧ (i ≠ j → o.dst ≠ some d) := by
 have hmem : (o, i) ∈ l.zipIdx := by
  rw [List.mem_zipIdx_iff_getElem?]
  exact hi
 have h1 := List.all_eq_true.1 h _ hmem
 simp only [Bool.and_eq_true] at h1
 obtain ⟨⟨⟨g1, g2⟩, g3⟩, g4⟩ := h1
 refine ⟨by simpa using g1, fun e he hbd => ?_, fun d hd => ?_, fun j q d hj hd => ?_⟩
 ·have := List.all_eq_true.1 g2 e (by simpa using he)
  simpa [hbd] using this
 ·rw [hd] at g3; simpa using g3
 ·have hmem2 : (q, j) ∈ l.zipIdx := by rw [List.mem_zipIdx_iff_getElem?]; exact hj
  have h2 := List.all_eq_true.1 g4 _ hmem2
  simp only [hd, Bool.and_eq_true] at h2
  refine ⟨fun ht => ?_, fun hne he => ?_⟩
  ·have h3 := List.all_eq_true.1 h2.1 _ ht
   simp only [bne_self_eq_false, Bool.false_or, List.any_eq_true, Bool.and_eq_true, beq_iff_eq] at h3
   obtain ⟨e, he, h4, h5⟩ := h3
   exact ⟨e, by simpa using he, h4, h5⟩
  ·have := h2.2
   rw [he] at this
   simp [hne] at this

theorem eval_put_self {a : Act} {d : Tmp} {v : Value} (h : d < a.tmps.size) : (a.put (some d) v).eval (.tmp d) = v := by
 simp [Act.put, Act.eval, h]
theorem eval_put_ne {a : Act} {o : Option Tmp} {d : Tmp} {v : Value} (h : o ≠ some d) : (a.put o v).eval (.tmp d) = a.eval (.tmp d) := by
 cases o with
 | none => rfl
 | some q => simp [Act.put, Act.eval, Array.getElem?_setIfInBounds_ne (show q ≠ d from fun e => h (by rw [e]))]
theorem put_size {a : Act} {o : Option Tmp} {v : Value} : (a.put o v).tmps.size = a.tmps.size := by cases o <;> simp [Act.put]
theorem put_defers {a : Act} {o : Option Tmp} {v : Value} : (a.put o v).defers = a.defers := by cases o <;> rfl
theorem put_other {a : Act} {o : Option Tmp} {v : Value} {t : Tmp} (h : o ≠ some t) : (a.put o v).tmps[t]? = a.tmps[t]? := by
 cases o with
 | none => rfl
 | some q => simp only [Act.put]; rw [Array.getElem?_setIfInBounds_ne (show q ≠ t from fun e => h (by rw [e]))]
theorem put_same {a : Act} {t : Tmp} {v : Value} (h : t < a.tmps.size) : (a.put (some t) v).tmps[t]? = some v := by
 simp only [Act.put]; rw [Array.getElem?_setIfInBounds_self_of_lt h]

theorem LInv.step {l : List Oper} {Φs : List VP} {a : Act} {w : World} {listed : Array Bool} {a' : Act} {w' w'' : World} (hB : looseB l a.tmps.size = true)
  (hst : ∀ Φ ∈ Φs, ∀ v w1 w2, Φ v w1 → Below w1.heap.size w1 w2 → Φ v w2) (h : LInv l Φs a w listed a' w') {i : Nat} {o : Oper} {Φ : VP} (hi : l[i]? = some o) (hΦ : Φs[i]? = some Φ) {v : Value} (hb : Below w'.heap.size w' w'') (hv : Φ v w'') :
  LInv l Φs a w (listed.setIfInBounds i true) (a'.put o.dst v) w'' := by
 have hlt : i < listed.size := by rw [h.size]; exact (List.getElem?_eq_some_iff.1 hi).1
 obtain ⟨_, _, hdn, hall⟩ := looseB_spec hB hi
 refine ⟨bthen h.below hb, by simpa using h.size, put_defers.trans h.defers, put_size.trans h.tsize, fun t ht => ?_, fun j q Ψ hj hΨ hl d hd => ?_⟩
 ·have hne : o.dst ≠ some t := fun e => by
   have := ht i o hi e
   rw [Array.getD_eq_getD_getElem?, Array.getElem?_setIfInBounds_self_of_lt hlt] at this
   cases this
  rw [put_other hne]
  refine h.old t fun j q hj hd => ?_
  have := ht j q hj hd
  by_cases e : i = j
  ·subst e; rw [Array.getD_eq_getD_getElem?, Array.getElem?_setIfInBounds_self_of_lt hlt] at this; cases this
  ·rwa [getD_set_ne false e] at this
 ·by_cases e : i = j
  ·subst e
   rw [hi] at hj
   cases hj
   rw [hΦ] at hΨ
   cases hΨ
   rw [hd, eval_put_self (by rw [h.tsize]; exact hdn d hd)]
   exact hv
  ·rw [getD_set_ne false e] at hl
   have hne := (hall j q d hj hd).2 e
   rw [eval_put_ne hne]
   exact hst Ψ (List.mem_of_getElem? hΨ) _ _ _ (h.new j q Ψ hj hΨ hl d hd) hb

theorem putAll_frame {l : List Oper} : ∀ {vs : List Value} {a : Act}, (putAll a l vs).tmps.size = a.tmps.size ∧ (putAll a l vs).defers = a.defers ∧
  ∀ t, (∀ o ∈ l, o.dst ≠ some t) → (putAll a l vs).tmps[t]? = a.tmps[t]? := by
 induction l with
 | nil => intro vs a; cases vs <;> exact ⟨rfl, rfl, fun _ _ => rfl⟩
 | cons o l ih =>
  intro vs a
  cases vs with
  | nil => exact ⟨rfl, rfl, fun _ _ => rfl⟩
  | cons v vs =>
   obtain ⟨h1, h2, h3⟩ := ih (vs := vs) (a := a.put o.dst v)
   exact ⟨h1.trans put_size, h2.trans put_defers, fun t ht => (h3 t fun q hq => ht q (List.mem_cons_of_mem _ hq)).trans (put_other (ht o (List.mem_cons_self ..)))⟩
theorem putAll_get {l : List Oper} : ∀ {a : Act} (f : Oper → Value) {j : Nat} {q : Oper} {d : Tmp}, l[j]? = some q → q.dst = some d → d < a.tmps.size → (∀ (i : Nat) (o : Oper), i ≠ j → l[i]? = some o → o.dst ≠ some d) →
  (putAll a l (l.map f)).tmps[d]? = some (f q) := by
 induction l with
 | nil => intro a f j q d h; simp at h
 | cons o l ih =>
  intro a f j q d hj hd hlt hne
  simp only [List.map_cons, putAll]
  match j with
  | 0 =>
   simp at hj
   subst hj
   rw [(putAll_frame (l := l) (vs := l.map f) (a := a.put o.dst (f o))).2.2 d (fun p hp => ?_), hd, put_same hlt]
   obtain ⟨i, hi⟩ := List.getElem?_of_mem hp
   exact hne (i + 1) p (by omega) (by simpa using hi)
  | j + 1 =>
   exact ih f (by simpa using hj) hd (by rw [put_size]; exact hlt) fun i p hi hp => hne (i + 1) p (by omega) (by simpa using hp)

theorem HAll_of {w : World} {f : Oper → Value} : ∀ {l : List Oper} {Φs : List VP}, l.length = Φs.length → (∀ (j : Nat) (o : Oper) (Φ : VP), l[j]? = some o → Φs[j]? = some Φ → o.dst.isSome = true → Φ (f o) w) → HAll w l Φs (l.map f)
 | [], [], _, _ => trivial
 | o :: l, Φ :: Φs, hl, h => ⟨h 0 o Φ rfl rfl, HAll_of (by simpa using hl) fun j q Ψ hj hΨ => h (j + 1) q Ψ (by simpa using hj) (by simpa using hΨ)⟩
 | [], _ :: _, hl, _ => by simp at hl
 | _ :: _, [], hl, _ => by simp at hl

theorem ready_nil {l : List Oper} {n : Nat} (hB : looseB l n = true) {listed : Array Bool} (hs : listed.size = l.length) (h : Region.ready .any l.toArray listed = []) : ∀ i, i < l.length → listed.getD i false = true := by
 intro i
 induction i using Nat.strongRecOn with
 | ind i ih =>
  intro hi
  cases hl : listed.getD i false
  ·exfalso
   have hm : i ∈ Region.ready .any l.toArray listed := by
    refine mem_ready.2 ⟨?_, l[i], by simp [hi], fun e he hbd => ?_⟩
    ·have : i < listed.size := by omega
     rw [Array.getD_eq_getD_getElem?, Array.getElem?_eq_getElem this] at hl ⊢
     exact hl
    ·have hlt := (looseB_spec hB (i := i) (o := l[i]) (by simp [hi])).2.1 e he hbd
     exact ih e.on hlt (by omega)
   rw [h] at hm
   cases hm
  ·rfl

theorem wpAny_loose {P : Program} {l : List Oper} {Φs : List VP} {a : Act} {w : World} {Q : Exit → Act → World → Prop} (hB : looseB l a.tmps.size = true)
  (hst : ∀ Φ ∈ Φs, ∀ v w1 w2, Φ v w1 → Below w1.heap.size w1 w2 → Φ v w2) (hJ : JAll P l Φs a w l Φs)
  (hQ : ∀ vs w', Below w.heap.size w w' → HAll w' l Φs vs → Q .normal (putAll a l vs) w') :
  ∀ (fuel : Nat) (listed : Array Bool) (a' : Act) (w' : World), (∃ s : List Nat, s.Nodup ∧ (∀ i ∈ s, i < l.length ∧ listed.getD i true = false) ∧ (∀ i, i < l.length → listed.getD i true = false → i ∈ s) ∧ s.length ≤ fuel) → LInv l Φs a w listed a' w' → wpAny P .any l.toArray Q fuel listed a' w' := by
 have hlen := JAll_len hJ
 have fin : ∀ (listed : Array Bool) (a' : Act) (w' : World), LInv l Φs a w listed a' w' → Region.ready .any l.toArray listed = [] → Q .normal a' w' := by
  intro listed a' w' hI hr
  have hall := ready_nil hB hI.size hr
  let f : Oper → Value := fun o => match o.dst with | some d => a'.eval (.tmp d) | none => undef
  have hH : HAll w' l Φs (l.map f) := HAll_of hlen fun j o Φ hj hΦ hs => by
   obtain ⟨d, hd⟩ := Option.isSome_iff_exists.1 hs
   have := hI.new j o Φ hj hΦ (hall j (List.getElem?_eq_some_iff.1 hj).1) d hd
   simpa [f, hd] using this
  have ha : a' = putAll a l (l.map f) := by
   obtain ⟨p1, p2, p3⟩ := putAll_frame (l := l) (vs := l.map f) (a := a)
   have e1 : a'.tmps = (putAll a l (l.map f)).tmps := by
    apply Array.ext_getElem?
    intro t
    by_cases ht : ∃ (j : Nat) (o : Oper), l[j]? = some o ∧ o.dst = some t
    ·obtain ⟨j, o, hj, hd⟩ := ht
     obtain ⟨_, _, hdn, _⟩ := looseB_spec hB hj
     have hlt := hdn t hd
     rw [putAll_get f hj hd hlt (fun i q hne hq => ((looseB_spec hB hq).2.2.2 j o t hj hd).2 hne)]
     have hlt' : t < a'.tmps.size := by rw [hI.tsize]; exact hlt
     simp [f, hd, Act.eval, Array.getElem?_eq_getElem hlt']
    ·rw [p3 t (fun o ho hd => ?_)]
     ·exact hI.old t fun j o hj hd => absurd ⟨j, o, hj, hd⟩ ht
     ·obtain ⟨j, hj⟩ := List.getElem?_of_mem ho
      exact ht ⟨j, o, hj, hd⟩
   have e2 : a'.defers = (putAll a l (l.map f)).defers := hI.defers.trans p2.symm
   cases a'
   cases hq : putAll a l (l.map f)
   rw [hq] at e1 e2
   simp only at e1 e2
   rw [e1, e2]
  rw [ha]
  exact hQ _ _ hI.below hH
 intro fuel
 induction fuel with
 | zero =>
  intro listed a' w' ⟨s, _, _, hs2, hs3⟩ hI
  have hr : Region.ready .any l.toArray listed = [] := by
   rw [List.eq_nil_iff_forall_not_mem]
   intro i hi
   obtain ⟨h1, o, ho, _⟩ := mem_ready.1 hi
   have hlt : i < l.length := by simpa using (Array.getElem?_eq_some_iff.1 ho).1
   have := hs2 i hlt h1
   obtain rfl : s = [] := List.eq_nil_of_length_eq_zero (by omega)
   cases this
  exact ⟨hr, fin _ _ _ hI hr⟩
 | succ fuel ih =>
  intro listed a' w' ⟨s, hs0, hs1, hs2, hs3⟩ hI
  refine ⟨fin _ _ _ hI, fun i hi => ?_⟩
  obtain ⟨h1, o, ho, hdeps⟩ := mem_ready.1 hi
  have hlt : i < l.length := by simpa using (Array.getElem?_eq_some_iff.1 ho).1
  have ho' : l[i]? = some o := by simpa using ho
  obtain ⟨Φ, hΦ⟩ : ∃ Φ, Φs[i]? = some Φ := ⟨_, List.getElem?_eq_getElem (by omega)⟩
  obtain ⟨hg, _, _, hall⟩ := looseB_spec hB ho'
  have hJi : JAt P l Φs a w o Φ := JAll_get hJ ho' hΦ
  have hj := hJi a' w' hI.below (fun t ht0 => by
   have ht : Operand.tmp t ∈ o.op.operands.toList := by
    unfold readsB at ht0
    obtain ⟨x, hx, he⟩ := List.any_eq_true.1 ht0
    cases x <;> simp at he
    subst he
    exact hx
   unfold slotP
   cases hwr : writer l Φs t with
   | some Ψ =>
    obtain ⟨j, q, hj, hd, hΨ⟩ := writer_some hwr
    obtain ⟨e, he, hon, hbind⟩ := (hall j q t hj hd).1 ht
    exact hI.new j q Ψ hj hΨ (by rw [← hon]; exact hdeps e he hbind) t hd
   | none =>
    have hno := writer_none hlen hwr
    have := hI.old t fun j q hj hd => absurd hd (hno j q hj)
    simp [Act.eval, this])
  have hnext : ∀ v w'', Below w'.heap.size w' w'' → Φ v w'' → wpAny P .any l.toArray Q fuel (listed.setIfInBounds i true) (a'.put o.dst v) w'' := by
   intro v w'' hb hv
   refine ih _ _ _ ⟨s.erase i, hs0.erase i, fun j hj => ?_, fun j hj hl => ?_, ?_⟩ (hI.step hB hst ho' hΦ hb hv)
   ·have hj' := List.mem_of_mem_erase hj
    have hne : j ≠ i := fun e => by subst e; exact (hs0.not_mem_erase) hj
    exact ⟨(hs1 j hj').1, by rw [getD_set_ne true (Ne.symm hne)]; exact (hs1 j hj').2⟩
   ·have hne : i ≠ j := fun e => by
     subst e
     have hsz : i < listed.size := by rw [hI.size]; exact hlt
     rw [Array.getD_eq_getD_getElem?, Array.getElem?_setIfInBounds_self_of_lt hsz] at hl
     cases hl
    rw [getD_set_ne true hne] at hl
    exact (List.mem_erase_of_ne (Ne.symm hne)).2 (hs2 j hj hl)
   ·rw [List.length_erase_of_mem (hs2 i hlt h1)]; omega
  unfold wpOp
  rw [ho]
  simp only [Region.wanted, hg, if_true]
  left
  unfold Oper.wp
  generalize (execOp a'.eval o).run P w' = r at hj
  cases r with
  | ok n w1 =>
   cases n with
   | value v => exact hnext v w1 hj.1 hj.2
   | skip => exact hnext undef w1 hj.1 hj.2
   | enter f args =>
    refine hj.2.mono fun e w2 ⟨v, he, hb2, hv⟩ => ?_
    subst he
    exact hnext v w2 (bthen hj.1 hb2) hv
   | _ => exact hj.elim
  | halt x w1 => exact hj.elim

/-- predicates that outlast new memory -/
def Stab (Φ : VP) : Prop := ∀ v w1 w2, Φ v w1 → Below w1.heap.size w1 w2 → Φ v w2
def SAll : List VP → Prop
 | Φ :: Φs => Stab Φ ∧ SAll Φs
 | [] => True
theorem SAll_mem : ∀ {Φs : List VP}, SAll Φs → ∀ Φ ∈ Φs, ∀ v w1 w2, Φ v w1 → Below w1.heap.size w1 w2 → Φ v w2
 | _ :: _, h, Φ, hm, v, w1, w2, h1, hb => by
  rcases List.mem_cons.1 hm with rfl | hm
  ·exact h.1 v w1 w2 h1 hb
  ·exact SAll_mem h.2 Φ hm v w1 w2 h1 hb
/-- the very value; a struct, a slice that reads so; new memory that reads so -/
def exV (c : Value) : VP := fun v _ => v = c
def rdS {α : Type} (E : Ty α) (x : α) : VP := fun v W => E.Rd W [v] x
theorem st_exV {c : Value} : Stab (exV c) := fun _ _ _ h _ => h
theorem st_rdS {α : Type} {E : Ty α} {x : α} : Stab (rdS E x) := fun _ _ _ h hb => Ty.Rd.below h hb
theorem ev {a : Act} {t : Tmp} {v : Value} (h : a.eval (.tmp t) = v) : a.tmps[t]?.getD undef = v := by simpa [Act.eval] using h
theorem HAll_cons {w : World} {o : Oper} {l : List Oper} {Φ : VP} {Φs : List VP} {vs : List Value} (h : HAll w (o :: l) (Φ :: Φs) vs) : ∃ v r, vs = v :: r ∧ (o.dst.isSome = true → Φ v w) ∧ HAll w l Φs r := by
 cases vs with
 | nil => cases h
 | cons v r => exact ⟨v, r, rfl, h.1, h.2⟩
theorem HAll_nil {w : World} {vs : List Value} (h : HAll w [] [] vs) : vs = [] := by
 cases vs with
 | nil => rfl
 | cons v r => cases h
theorem slot_w {l : List Oper} {Φs : List VP} {a a' : Act} {w' : World} {o : Oper} (hd : ∀ t, readsB o t = true → slotP l Φs a t (a'.eval (.tmp t)) w') (t : Tmp) (Φ : VP) (hr : readsB o t = true) (hw : writer l Φs t = some Φ) : Φ (a'.eval (.tmp t)) w' := by
 have h := hd t hr
 unfold slotP at h
 rw [hw] at h
 exact h
theorem slot_o {l : List Oper} {Φs : List VP} {a a' : Act} {w' : World} {o : Oper} (hd : ∀ t, readsB o t = true → slotP l Φs a t (a'.eval (.tmp t)) w') (t : Tmp) (hr : readsB o t = true) (hw : writer l Φs t = none) : a'.eval (.tmp t) = a.eval (.tmp t) := by
 have h := hd t hr
 unfold slotP at h
 rw [hw] at h
 exact h
theorem wp_region_loose {P : Program} {id : Nat} {l : List Oper} {a : Act} {w : World} {Q : Exit → Act → World → Prop} (Φs : List VP) (hm : P.follows .mixedOrders = true) (hB : looseB l a.tmps.size = true)
  (hst0 : SAll Φs) (hJ : JAll P l Φs a w l Φs)
  (hQ : ∀ vs w', Below w.heap.size w w' → HAll w' l Φs vs → Q .normal (putAll a l vs) w') : (Code.region id l.toArray true).wp P Q a w := by
 have hst := SAll_mem hst0
 refine wp_region_any hm (wpAny_loose hB hst hJ hQ _ _ _ _ ⟨List.range l.length, List.nodup_range, fun i hi => ⟨by simpa using hi, ?_⟩, fun i hi _ => by simpa using hi, by simp⟩ ⟨⟨rfl, rfl, rfl, Nat.le_refl _, fun _ _ => rfl⟩, by simp, rfl, rfl, fun _ _ => rfl, fun j o Φ hj _ hl => ?_⟩)
 ·simp at hi
  simp [hi]
 ·have hjl := (List.getElem?_eq_some_iff.1 hj).1
  simp [hjl] at hl
end Go.Proofs.YtajmjfbejfiipaaGreat
namespace Go.Proofs.YtajmjfbejfiipaaGreat
open Go.RowKit Go.Sort
theorem isNaN_any (x : Int) (w : World) : Calls Tryz.prog 233 #[.int .i64 x] w fun e w' => e = .returned (.bool false) ∧ w = w' := by
 go_enter Tryz.func233, Tryz.ntmps233
 go_wp2_with fail
 go_ret
 exact ⟨ret_bool (by simp), rfl⟩
theorem cmpCompare_any (x y : Int) (w : World) : Calls Tryz.prog 204 #[.int .i64 x, .int .i64 y] w fun e w' => e = .returned (.int .i64 (cmpI x y)) ∧ w = w' := by
 rcases ilt x y with h | h
 ·go_enter Tryz.func204, Tryz.ntmps204
  go_wp2_with (go_at_call 233; refine (isNaN_any _ _).mono ?_; rintro e w' ⟨rfl, rfl⟩)
  go_ret
  exact ⟨ret_int (cmpI_lt h).symm, rfl⟩
 ·rcases ilt y x with h' | h'
  ·go_enter Tryz.func204, Tryz.ntmps204
   go_wp2_with (go_at_call 233; refine (isNaN_any _ _).mono ?_; rintro e w' ⟨rfl, rfl⟩)
   go_ret
   exact ⟨ret_int (cmpI_gt h').symm, rfl⟩
  ·go_enter Tryz.func204, Tryz.ntmps204
   go_wp2_with (go_at_call 233; refine (isNaN_any _ _).mono ?_; rintro e w' ⟨rfl, rfl⟩)
   go_ret
   exact ⟨ret_int (cmpI_eq (by omega)).symm, rfl⟩
set_option maxHeartbeats 400000 in
theorem Compare_any (w : World) {v u : Value} {xs ys : List Int} (h : intsT.Rd w [v] xs) (h' : intsT.Rd w [u] ys) :
  Calls Tryz.prog 142 #[v, u] w fun e w' => e = .returned (.int .i64 (cmpL xs ys)) ∧ w = w' := by
 obtain ⟨ad, cap, hv, hl, hc, hcell⟩ := ints_ex h
 obtain ⟨ad', cap', hv', hl', hc', hcell'⟩ := ints_ex h'
 obtain rfl : v = _ := by simpa using hv
 obtain rfl : u = _ := by simpa using hv'
 clear h hv h' hv'
 go_enter Tryz.func142, Tryz.ntmps142
 go_wp2_with fail
 go_loop [11] (fun i => ∃ k : Nat, k ≤ xs.length ∧ k ≤ ys.length ∧ i = .int .i64 k ∧ xs.take k = ys.take k) (fun i => xs.length - (intOf i).toNat)
 case atStart => exact ⟨0, Nat.zero_le _, Nat.zero_le _, rfl, rfl⟩
 case round =>
  obtain ⟨k, hk, hk', rfl, ht⟩ := hrel
  have HT := Lib.hid ht
  clear ht
  by_cases hkl : k < xs.length
  ·obtain ⟨b, o, rfl, hb, hce⟩ := hcell (by omega)
   have d0 := (hce k hkl).2
   by_cases hkl' : k < ys.length
   ·obtain ⟨b', o', rfl, hb', hce'⟩ := hcell' (by omega)
    have d1 := (hce' k hkl').2
    clear hce hce' hcell hcell'
    by_cases hne : xs[k] = ys[k]
    ·have HE := Lib.hid hne
     have hz : cmpI xs[k] ys[k] = 0 := cmpI_eq hne
     clear hne
     go_wp2_with (go_at_call 204; refine (cmpCompare_any _ _ _).mono ?_; rintro e w' ⟨rfl, rfl⟩)
     go_round
     case rel => exact ⟨k + 1, by omega, by omega, by go_num, take_eq_succ hkl hkl' HT.out HE.out⟩
     case measure => simp [intOf]; omega
    ·have hz : (cmpI xs[k] ys[k] != 0) = true := by
      rcases ilt xs[k] ys[k] with h | h
      ·rw [cmpI_lt h]; rfl
      ·rw [cmpI_gt (by omega)]; rfl
     have HC := Lib.hid (cmpL_ne HT.out hkl hkl' hne)
     clear hne
     go_wp2_with (go_at_call 204; refine (cmpCompare_any _ _ _).mono ?_; rintro e w' ⟨rfl, rfl⟩)
     go_ret
     exact ⟨ret_int HC.out.symm, rfl⟩
   ·clear hce hcell hcell'
    go_wp2_with fail
    go_ret
    obtain rfl : k = ys.length := by omega
    exact ⟨ret_int (cmpL_more (by have := HT.out; rwa [List.take_length] at this) hkl).symm, rfl⟩
  ·obtain rfl : k = xs.length := by omega
   have hq : xs = ys.take xs.length := by have := HT.out; rwa [List.take_length] at this
   have HQ := Lib.hid hq
   clear hq
   by_cases hlt : xs.length < ys.length
   ·go_wp2_with fail
    go_ret
    exact ⟨ret_int (cmpL_less HQ.out hlt).symm, rfl⟩
   ·go_wp2_with fail
    go_ret
    have e : xs = ys := by have := HQ.out; rwa [List.take_of_length_le (by omega)] at this
    exact ⟨ret_int (by rw [e, cmpL_self]), rfl⟩
theorem areValues1_any (w : World) (size a : Int) (b : Nat) (h0 : 0 ≤ size) (h1 : size ≤ 1000000000000) (hc : w.cell? ⟨b, 0, none⟩ = some (.int .i64 size)) :
  Calls Tryz.prog 160 #[.int .i64 a, .pointer (some ⟨b, 0, none⟩)] w fun e w' => e = .returned (.bool (!inB a 0 (size - 1))) ∧ Below w.heap.size w w' := by
 go_enter Tryz.func160, Tryz.ntmps160
 go_wp2_with (go_at_call 161; refine (isValue_any _ _ _ h0 h1).mono ?_; rintro e w' ⟨rfl, rfl⟩)
 go_ret
 exact ⟨rfl, Below.refl _ _⟩
theorem areValues_any (w : World) {v : Value} {xs : List Int} (h : intsT.Rd w [v] xs) (size many : Int) (h0 : 0 ≤ size) (h1 : size ≤ 1000000000000) :
  Calls Tryz.prog 84 #[.int .i64 size, v, .int .i64 many] w fun e w' => e = .returned (.bool (tb (rowOk size many xs))) ∧ Below w.heap.size w w' := by
 have hx := h
 obtain ⟨ad, cap, hv, hl, hc, -⟩ := ints_ex h
 obtain rfl : v = _ := by simpa using hv
 clear h hv
 cases hn : (((xs.length : Nat) : Int) == many)
 ·go_enter Tryz.func84, Tryz.ntmps84
  go_wp2_with fail
  go_ret
  exact ⟨ret_bool (tb_false (fun hr => by simp at hn; exact hn hr.1)).symm, bA⟩
 have HN : Hid ((xs.length : Int) = many) := by simpa [Hid] using hn
 have ha : (!anyB (fun a => !inB a 0 (size - 1)) xs) = tb (rowOk size many xs) := by
  rw [Bool.eq_iff_iff, tb_iff]
  simp only [anyB, rowOk, HN.out, true_and, Bool.not_eq_true', List.any_eq_false, Bool.not_eq_false, inB_true]
 have HA := Lib.hid ha
 clear ha
 go_enter Tryz.func84, Tryz.ntmps84
 go_wp2_with fail
 refine (ContainsFuncInt_any _ (hx.below bA) (fun a => !inB a 0 (size - 1)) 160 #[.pointer (some ⟨w.heap.size, 0, none⟩)] (enters Tryz.func160 (by kernel_rfl) rfl) (fun W hW k hk => areValues1_any W size xs[k] w.heap.size h0 h1 ?_)).mono ?_
 ·rw [hW.cell (by simp)]; simp
 rintro e w1 ⟨rfl, hb1⟩
 go_wp2_with fail
 go_ret
 exact ⟨ret_bool HA.out, (by repeat (first | exact Below.refl _ _ | exact bA | assumption | refine Below.setCell ?_ (by first | omega | (simp; try omega)) _ | refine Below.alloc ?_ (by first | omega | (simp; try omega)) _ | refine Below.drew ?_ | refine bDN ?_ | refine bthen ?_ (by assumption)))⟩
theorem l01Tuple_any (size arity : Int) {v : Value} {xs : List Int} (w : World) (h : intsT.Rd w [v] xs) (h0 : 0 ≤ size) (h1 : size ≤ 1000000000000) :
  Calls Tryz.prog 138 #[.int .i64 size, .int .i64 arity, v] w fun e w' => e = .returned (.bool (tb (rowOk size arity xs))) ∧ w = w' := by
 obtain ⟨ad, cap, hv, hl, hc, hcell⟩ := ints_ex h
 obtain rfl : v = _ := by simpa using hv
 clear h hv
 go_enter Tryz.func138, Tryz.ntmps138
 go_wp2_with fail
 go_loop [7] (fun i => ∃ k : Nat, k ≤ xs.length ∧ i = .int .i64 k ∧ noneB (fun a => !inB a 0 (size - 1)) (xs.take k)) (fun i => xs.length - (intOf i).toNat)
 case atStart => exact ⟨0, Nat.zero_le _, rfl, noneB_zero _ _⟩
 case round =>
  obtain ⟨k, hk, rfl, ht⟩ := hrel
  have HT := Lib.hid ht
  clear ht
  by_cases hlt : k < xs.length
  ·obtain ⟨b, o, rfl, hb, hce⟩ := hcell (by omega)
   have hck := (hce k hlt).2
   clear hcell hce
   cases hi : inB xs[k] 0 (size - 1)
   ·go_wp2_with (go_at_call 107; refine (l00In_any _ _ _ _).mono ?_; rintro e w' ⟨rfl, rfl⟩)
    go_ret
    exact ⟨ret_bool (tb_false (fun hr => by have := inB_true.2 (hr.2 _ (List.getElem_mem hlt)); rw [hi] at this; cases this)).symm, rfl⟩
   ·go_wp2_with (go_at_call 107; refine (l00In_any _ _ _ _).mono ?_; rintro e w' ⟨rfl, rfl⟩)
    go_round
    case rel => exact ⟨k + 1, by omega, by go_num, noneB_succ hlt HT.out (by simp [hi])⟩
    case measure => simp [intOf]; omega
  ·obtain rfl : k = xs.length := by omega
   have hall : ∀ a ∈ xs, 0 ≤ a ∧ a ≤ size - 1 := fun a ha => by
    have := HT.out a (by rw [List.take_length]; exact ha)
    simpa [inB_true] using this
   have HR : Hid (((xs.length : Int) == arity) = tb (rowOk size arity xs)) := by
    unfold Hid
    rw [Bool.eq_iff_iff, tb_iff]
    simp only [rowOk, beq_iff_eq]
    exact ⟨fun h => ⟨h, hall⟩, fun h => h.1⟩
   clear hall
   go_wp2_with fail
   go_ret
   exact ⟨ret_bool HR.out, rfl⟩
end Go.Proofs.YtajmjfbejfiipaaGreat
namespace Go.Proofs.YtajmjfbejfiipaaGreat
open Go.RowKit Go.Sort

theorem elInt : ElT Tryz.prog 38 2 1 8 := .mk (z := .int .i64 0) Tryz.underlying38 (by kernel_rfl) rfl (by decide)
theorem elInt64SS : ElT Tryz.prog 29 38 1 24 := .mk (z := .slice none 0 0) Tryz.underlying29 (by kernel_rfl) rfl (by decide)
theorem elRelS : ElT Tryz.prog 24 32 2 32 := .mk (z := .agg #[.int .i64 0, .slice none 0 0]) Tryz.underlying24 (by kernel_rfl) rfl (by decide)
theorem elAtomS : ElT Tryz.prog 45 69 2 32 := .mk (z := .agg #[.int .i64 0, .slice none 0 0]) Tryz.underlying45 (by kernel_rfl) rfl (by decide)
end Go.Proofs.YtajmjfbejfiipaaGreat
namespace Go.Proofs.YtajmjfbejfiipaaGreat
open Go.RowKit Go.Sort
theorem wrap64_id {n : Int} (h0 : -1000000000000000000 ≤ n) (h1 : n ≤ 1000000000000000000) : wrap64 n = n := by unfold wrap64; omega
theorem pow_nn {s : Int} (h : 0 ≤ s) : ∀ k : Nat, 0 ≤ s ^ k
 | 0 => by rw [Int.pow_zero]; decide
 | k + 1 => by rw [Int.pow_succ]; exact Int.mul_nonneg (pow_nn h k) h
theorem pow_mono {s : Int} (h : 0 ≤ s) (h1 : s ≤ 1000) : ∀ k : Nat, s ^ k ≤ 1000 ^ k
 | 0 => by rw [Int.pow_zero, Int.pow_zero]; exact Int.le_refl _
 | k + 1 => by
  rw [Int.pow_succ, Int.pow_succ]
  exact Int.mul_le_mul (pow_mono h h1 k) h1 h (pow_nn (by decide) k)
theorem pow_le {s : Int} (h : 0 ≤ s) (h1 : s ≤ 1000) {k : Nat} (hk : k ≤ 5) : s ^ k ≤ 1000000000000000 := by
 refine Int.le_trans (pow_mono h h1 k) ?_
 rcases (show k = 0 ∨ k = 1 ∨ k = 2 ∨ k = 3 ∨ k = 4 ∨ k = 5 by omega) with rfl | rfl | rfl | rfl | rfl | rfl <;> decide
theorem pow_mono' {s c : Int} (h : 0 ≤ s) (h1 : s ≤ c) : ∀ k : Nat, s ^ k ≤ c ^ k
 | 0 => by rw [Int.pow_zero, Int.pow_zero]; exact Int.le_refl _
 | k + 1 => by
  rw [Int.pow_succ, Int.pow_succ]
  exact Int.mul_le_mul (pow_mono' h h1 k) h1 h (pow_nn (by omega) k)
theorem bD' {B : Nat} {w : World} : Below B w w.drew := ⟨rfl, rfl, rfl, Nat.le_refl _, fun _ _ => rfl⟩
set_option maxHeartbeats 800000 in
theorem power_any (w : World) (s m : Int) (hs : 0 ≤ s) (hs1 : s ≤ 1000) (hm : m ≤ 5) :
  Calls Tryz.prog 63 #[.int .i64 s, .int .i64 m] w fun e w' => e = .returned (.int .i64 (s ^ m.toNat)) ∧ w = w' := by
 go_enter Tryz.func63, Tryz.ntmps63
 go_wp2_with fail
 go_loop [7, 5] (fun i o => ∃ k : Nat, k ≤ m.toNat ∧ i = .int .i64 k ∧ o = .int .i64 (s ^ k)) (fun i _ => m.toNat - (intOf i).toNat)
 case atStart => exact ⟨0, Nat.zero_le _, rfl, by simp⟩
 case round =>
  obtain ⟨k, hk, rfl, rfl⟩ := hrel
  by_cases hkl : (k : Int) < m
  ·have h1 := pow_nn hs (k + 1)
   have h2 := pow_le hs hs1 (k := k + 1) (by omega)
   have HM : Hid (wrap64 (s ^ k * s) = s ^ (k + 1)) := by
    unfold Hid
    rw [← Int.pow_succ]; exact wrap64_id (Int.le_trans (by decide) h1) (Int.le_trans h2 (by decide))
   clear h1 h2
   go_wp2_with fail
   go_round
   case rel => exact ⟨k + 1, by omega, by go_num, by first | exact congrArg _ HM.out | (rw [← HM.out]; go_num)⟩
   case measure => simp [intOf]; omega
  ·obtain rfl : k = m.toNat := by omega
   go_wp2_with fail
   go_ret
   exact ⟨rfl, rfl⟩
set_option maxHeartbeats 800000 in
theorem l01Power_any (w : World) (s m : Int) (hs : 0 ≤ s) (hs1 : s ≤ 1000) (hm : m ≤ 5) :
  Calls Tryz.prog 139 #[.int .i64 s, .int .i64 m] w fun e w' => e = .returned (.int .i64 (s ^ m.toNat)) ∧ w = w' := by
 by_cases hm0 : m ≤ 0
 ·obtain h0 : m.toNat = 0 := by omega
  have HZ : Hid (s ^ m.toNat = 1) := by unfold Hid; rw [h0, Int.pow_zero]
  clear h0
  go_enter Tryz.func139, Tryz.ntmps139
  go_wp2_with fail
  go_loop [1, 5] (fun i o => i = .int .i64 m ∧ o = .int .i64 1) (fun i _ => (intOf i).toNat)
  case atStart => exact ⟨rfl, rfl⟩
  case round =>
   obtain ⟨rfl, rfl⟩ := hrel
   go_wp2_with fail
   go_ret
   exact ⟨ret_int HZ.out.symm, rfl⟩
 go_enter Tryz.func139, Tryz.ntmps139
 go_wp2_with fail
 go_loop [1, 5] (fun i o => ∃ k : Nat, k ≤ m.toNat ∧ i = .int .i64 (m - k) ∧ o = .int .i64 (s ^ k)) (fun i _ => (intOf i).toNat)
 case atStart => exact ⟨0, Nat.zero_le _, by simp, by simp⟩
 case round =>
  obtain ⟨k, hk, rfl, rfl⟩ := hrel
  by_cases hkl : (k : Int) < m
  ·have h1 := pow_nn hs (k + 1)
   have h2 := pow_le hs hs1 (k := k + 1) (by omega)
   have HM : Hid (wrap64 (s ^ k * s) = s ^ (k + 1)) := by
    unfold Hid
    rw [← Int.pow_succ]; exact wrap64_id (Int.le_trans (by decide) h1) (Int.le_trans h2 (by decide))
   clear h1 h2
   go_wp2_with fail
   go_round
   case rel => exact ⟨k + 1, by omega, by go_num, by first | exact congrArg _ HM.out | (rw [← HM.out]; go_num)⟩
   case measure => simp [intOf]; omega
  ·have hkm : (k : Int) = m := by omega
   have HK : Hid (s ^ k = s ^ m.toNat) := by unfold Hid; rw [show k = m.toNat by omega]
   go_wp2_with fail
   go_ret
   exact ⟨ret_int HK.out, rfl⟩
/-- a list's index in the order of lists -/
def idxL (s : Int) : Int → List Int → Int
 | acc, [] => acc
 | acc, a :: r => idxL s (acc * s + a) r
theorem idxL_append (s acc : Int) : ∀ (xs ys : List Int), idxL s acc (xs ++ ys) = idxL s (idxL s acc xs) ys := by
 intro xs
 induction xs generalizing acc with
 | nil => intro ys; rfl
 | cons a r ih => intro ys; exact ih _ ys
theorem idxL_take {s : Int} {xs : List Int} {k : Nat} (h : k < xs.length) : idxL s 0 (xs.take (k + 1)) = idxL s 0 (xs.take k) * s + xs[k] := by
 rw [List.take_succ_eq_append_getElem h, idxL_append]
 rfl
theorem idx_bd {s : Int} (hs : 1 ≤ s) {xs : List Int} (h : ∀ a ∈ xs, 0 ≤ a ∧ a ≤ s - 1) : ∀ k, k ≤ xs.length → 0 ≤ idxL s 0 (xs.take k) ∧ idxL s 0 (xs.take k) ≤ s ^ k - 1
 | 0, _ => by simp [idxL]
 | k + 1, hk => by
  have ih := idx_bd hs h k (by omega)
  have ha := h xs[k] (List.getElem_mem hk)
  have h1 := Int.mul_le_mul_of_nonneg_right ih.2 (show (0 : Int) ≤ s by omega)
  have h2 : (s ^ k - 1) * s = s ^ (k + 1) - s := by rw [Int.sub_mul, Int.pow_succ, Int.one_mul]
  have h3 := Int.mul_nonneg ih.1 (show (0 : Int) ≤ s by omega)
  rw [idxL_take hk]
  rw [h2] at h1
  generalize s ^ (k + 1) = P at *
  generalize idxL s 0 (xs.take k) * s = Q at *
  constructor <;> omega
set_option maxHeartbeats 800000 in
theorem indexOf_any (w : World) (s : Int) {v : Value} {xs : List Int} (h : intsT.Rd w [v] xs) (hs : 1 ≤ s) (hs1 : s ≤ 1000) (hl5 : xs.length ≤ 5) (hin : ∀ a ∈ xs, 0 ≤ a ∧ a ≤ s - 1) :
  Calls Tryz.prog 68 #[.int .i64 s, v] w fun e w' => e = .returned (.int .i64 (idxL s 0 xs)) ∧ w = w' := by
 obtain ⟨ad, cap, hv, hl, hc, hcell⟩ := ints_ex h
 obtain rfl : v = _ := by simpa using hv
 have HIN := Lib.hid hin
 clear h hv hin
 go_enter Tryz.func68, Tryz.ntmps68
 go_wp2_with fail
 go_loop [10, 5] (fun i o => ∃ k : Nat, k ≤ xs.length ∧ i = .int .i64 k ∧ o = .int .i64 (idxL s 0 (xs.take k))) (fun i _ => xs.length - (intOf i).toNat)
 case atStart => exact ⟨0, Nat.zero_le _, rfl, by simp [idxL]⟩
 case round =>
  obtain ⟨k, hk, rfl, rfl⟩ := hrel
  by_cases hkl : k < xs.length
  ·obtain ⟨b, o, rfl, hb, hce⟩ := hcell (by omega)
   have e0 := (hce k hkl).2
   have b0 := idx_bd hs HIN.out k hk
   have b1 := idx_bd hs HIN.out (k + 1) hkl
   have p0 := pow_le (s := s) (by omega) hs1 (k := k + 1) (by omega)
   have ha := HIN.out xs[k] (List.getElem_mem hkl)
   have hr := idxL_take (s := s) hkl
   have HM : Hid (wrap64 (wrap64 (idxL s 0 (xs.take k) * s) + xs[k]) = idxL s 0 (xs.take (k + 1))) := by
    unfold Hid
    have hq := Int.mul_nonneg b0.1 (show (0 : Int) ≤ s by omega)
    rw [hr] at b1 ⊢
    generalize s ^ (k + 1) = P at *
    generalize idxL s 0 (xs.take k) * s = Q at *
    rw [wrap64_id (n := Q) (by omega) (by omega), wrap64_id (by omega) (by omega)]
   clear hcell hce b0 b1 p0 ha hr
   go_wp2_with fail
   go_round
   case rel => exact ⟨k + 1, by omega, by go_num, by first | exact congrArg _ HM.out | (rw [← HM.out]; go_num)⟩
   case measure => simp [intOf]; omega
  ·obtain rfl : k = xs.length := by omega
   clear hcell
   rw [List.take_length]
   go_wp2_with fail
   go_ret
   exact ⟨rfl, rfl⟩
set_option maxHeartbeats 800000 in
theorem l01Code_any (w : World) (s : Int) {v : Value} {xs : List Int} (h : intsT.Rd w [v] xs) (hs : 1 ≤ s) (hs1 : s ≤ 1000) (hl5 : xs.length ≤ 5) (hin : ∀ a ∈ xs, 0 ≤ a ∧ a ≤ s - 1) :
  Calls Tryz.prog 75 #[.int .i64 s, v] w fun e w' => e = .returned (.int .i64 (idxL s 0 xs)) ∧ w = w' := by
 obtain ⟨ad, cap, hv, hl, hc, hcell⟩ := ints_ex h
 obtain rfl : v = _ := by simpa using hv
 have HIN := Lib.hid hin
 clear h hv hin
 go_enter Tryz.func75, Tryz.ntmps75
 go_wp2_with fail
 go_loop [6, 5] (fun i o => ∃ k : Nat, k ≤ xs.length ∧ i = .int .i64 k ∧ o = .int .i64 (idxL s 0 (xs.take k))) (fun i _ => xs.length - (intOf i).toNat)
 case atStart => exact ⟨0, Nat.zero_le _, rfl, by simp [idxL]⟩
 case round =>
  obtain ⟨k, hk, rfl, rfl⟩ := hrel
  by_cases hkl : k < xs.length
  ·obtain ⟨b, o, rfl, hb, hce⟩ := hcell (by omega)
   have e0 := (hce k hkl).2
   have b0 := idx_bd hs HIN.out k hk
   have b1 := idx_bd hs HIN.out (k + 1) hkl
   have p0 := pow_le (s := s) (by omega) hs1 (k := k + 1) (by omega)
   have ha := HIN.out xs[k] (List.getElem_mem hkl)
   have hr := idxL_take (s := s) hkl
   have HM : Hid (wrap64 (wrap64 (idxL s 0 (xs.take k) * s) + xs[k]) = idxL s 0 (xs.take (k + 1))) := by
    unfold Hid
    have hq := Int.mul_nonneg b0.1 (show (0 : Int) ≤ s by omega)
    rw [hr] at b1 ⊢
    generalize s ^ (k + 1) = P at *
    generalize idxL s 0 (xs.take k) * s = Q at *
    rw [wrap64_id (n := Q) (by omega) (by omega), wrap64_id (by omega) (by omega)]
   clear hcell hce b0 b1 p0 ha hr
   go_wp2_with fail
   go_round
   case rel => exact ⟨k + 1, by omega, by go_num, by first | exact congrArg _ HM.out | (rw [← HM.out]; go_num)⟩
   case measure => simp [intOf]; omega
  ·obtain rfl : k = xs.length := by omega
   clear hcell
   rw [List.take_length]
   go_wp2_with fail
   go_ret
   exact ⟨rfl, rfl⟩
end Go.Proofs.YtajmjfbejfiipaaGreat
namespace Go.Proofs.YtajmjfbejfiipaaGreat
open Go.RowKit Go.Sort
/-- a row of numbers of the call's own, made and then written at places -/
def IR (e base : Nat) (w : World) (g n cap : Nat) (L : List Int) : Prop := L.length = n ∧ (∀ a ∈ L, I64 a) ∧ base ≤ g ∧ w.ownsRow base e 1 (.slice (some ⟨g, 0, none⟩) n cap) n (L.map (Value.int .i64))
section
variable {e base g n cap : Nat} {w w' : World} {L : List Int}
theorem IR.cell (h : IR e base w g n cap L) {j : Nat} (hj : j < n) : ∃ u, w.cell? ⟨g, j, none⟩ = some u := by
 rw [World.ownsRow.cellAt h.2.2.2 j (by omega)]
 exact ⟨_, List.getElem?_eq_getElem (by rw [List.length_map, h.1]; exact hj)⟩
theorem IR.free (h : IR e base w g n cap L) (j : Nat) : w.frozen? ⟨g, j, none⟩ = false := World.ownsRow.frozenAt h.2.2.2 j
theorem IR.lt (h : IR e base w g n cap L) : g < w.heap.size := (h.2.2.2.lt g rfl).2
theorem IR.set (h : IR e base w g n cap L) (j : Nat) {a : Int} (ha : I64 a) : IR e base (w.setCell ⟨g, j, none⟩ (.int .i64 a)) g n cap (L.set j a) := by
 refine ⟨by rw [List.length_set]; exact h.1, fun b hb => ?_, h.2.2.1, ?_⟩
 ·rcases List.mem_or_eq_of_mem_set hb with hb | rfl
  ·exact h.2.1 b hb
  ·exact ha
 ·rw [List.map_set]
  exact (h.2.2.2.stored j _).1
theorem IR.fr (h : IR e base w g n cap L) (hl : n ≤ capMax) : intsT.Fr base w [.slice (some ⟨g, 0, none⟩) n cap] L := by
 obtain ⟨h1, h2, h3, h4⟩ := h
 subst h1
 have hlt := (h4.lt g rfl).2
 have hfl : flat (fun _ => []) L.length = [] := List.eq_nil_iff_forall_not_mem.2 fun x hx => by obtain ⟨_, _, h⟩ := List.mem_flatMap.1 hx; cases h
 refine Bl.fr (E := Ty.int) (e := e) (top := w.heap.size) ⟨L.map (Value.int .i64), fun _ => [], h4, fun i hi => ⟨[.int .i64 L[i]], ⟨rfl, h2 _ (List.getElem_mem hi), rfl⟩, fun j hj => ?_⟩, by rw [hfl]; exact List.nodup_nil, by rw [hfl]; simp, fun g' hg' => ?_, by rw [hfl]; intro b hb; cases hb⟩ hl
 ·obtain rfl : j = 0 := by simpa using hj
  simp [Ty.int, hi]
 ·simp [Value.ownBlock] at hg'
  omega
end
theorem wpList_mkI {P : Program} (w : World) {ops : Array Oper} {rest : List Oper} {o : Oper} {a : Act} {Q : Exit → Act → World → Prop} (hg : o.guard = none) (l c : Operand) (t e : TypeId) {bytes : Nat}
  (hop : o.op = Op.makeSlice t l c) (ht : P.underlying t = some (.slice e)) (hinfo : (P.info? e).map (fun i => (i.zero, i.size, i.bytes)) = some (some (.int .i64 0), 1, bytes)) (base : Nat) (n : Nat) (hl : a.eval l = .int .i64 (n : Int)) (hc : a.eval c = .int .i64 (n : Int)) (hn : n ≤ 1000000000) (hby : bytes ≤ 100000) (hb : base ≤ w.heap.size)
  (hK : ∀ w', IR e base w' w.heap.size n n (List.replicate n 0) → w.grownBy w' none → w'.heap.size = w.heap.size + 1 → wpList P ops Q rest (a.put o.dst (.slice (some ⟨w.heap.size, 0, none⟩) n n)) w') :
  wpList P ops Q (o :: rest) a w := by
 obtain ⟨i, hi, hz, hsz, hbt'⟩ := info_parts hinfo
 have hlen' : bytes * n ≤ 281474976710656 := Nat.le_trans (Nat.mul_le_mul hby hn) (by decide)
 refine wpList_plain hg fun K hK' => ?_
 have hb48 : (i.bytes : Int) * (n : Int) ≤ 281474976710656 := by
  have h : ((bytes * n : Nat) : Int) ≤ 281474976710656 := by omega
  rw [hbt']
  rwa [Int.natCast_mul] at h
 have hr := run_make (P := P) w t e i (.int .i64 0) ht hi hz .i64 .i64 (n : Int) (n : Int) (by omega) (Int.le_refl _) hb48 (by omega)
 simp only [Int.toNat_natCast] at hr
 unfold Oper.wp
 simp only [execOp, hop, hl, hc, hr, Result.andThen_ok, Sem.run_bind, Sem.run_pure]
 have hown := World.ownsRow_lit (base := base) (e := e) (size := 1) w (madeCells (Value.int .i64 0).cells (n * i.size)) n hb (by unfold maxLen; omega) (by rw [size_madeCells, hsz])
 refine hK' _ _ (hK _ ⟨by simp, fun a ha => ?_, hb, ?_⟩ (World.grownBy_alloc w _ none) (by simp))
 ·rw [List.eq_of_mem_replicate ha]; exact I64.small (by omega) (by omega)
 ·have e1 : (madeCells (Value.int .i64 0).cells (n * i.size)).toList = (List.replicate n (0 : Int)).map (Value.int .i64) := by
   rw [hsz, Nat.mul_one, List.map_replicate]
   have hc0 : (Value.int .i64 0).cells = #[.int .i64 0] := by simp [Value.cells]
   rw [hc0]
   exact toList_madeCells_one (.int .i64 0) n
  rw [← e1]
  exact hown
def dig (s idx : Int) (j : Nat) : Int := (idx / s ^ j) % s
def digL (s idx : Int) (n : Nat) : List Int := (List.range n).map fun i => dig s idx (n - 1 - i)
theorem digL_len {s idx : Int} {n : Nat} : (digL s idx n).length = n := by simp [digL]
theorem dig_nn {s idx : Int} (hs : 1 ≤ s) (j : Nat) : 0 ≤ dig s idx j ∧ dig s idx j < s := ⟨Int.emod_nonneg _ (by omega), Int.emod_lt_of_pos _ (by omega)⟩
theorem quo_nn {s idx : Int} (hs : 1 ≤ s) (h : 0 ≤ idx) (j : Nat) : 0 ≤ idx / s ^ j ∧ idx / s ^ j ≤ idx := by
 have h1 : 0 ≤ s ^ j := pow_nn (by omega) j
 exact ⟨Int.ediv_nonneg h h1, Int.ediv_le_self _ h⟩
theorem quo_succ {s idx : Int} (hs : 1 ≤ s) (j : Nat) : idx / s ^ j / s = idx / s ^ (j + 1) := by
 rw [Int.pow_succ, Int.ediv_ediv_of_nonneg (pow_nn (by omega) j)]
theorem infoInt : (Tryz.prog.info? 2).map (fun i => (i.zero, i.size, i.bytes)) = some (some (.int .i64 0), 1, 8) := by kernel_rfl
set_option maxHeartbeats 800000 in
set_option maxRecDepth 100000 in
theorem listOf_any (w : World) (s idx : Int) (n : Nat) (hs : 1 ≤ s) (hs1 : s ≤ 1000) (hn : n ≤ 5) (h0 : 0 ≤ idx) (h1 : idx ≤ 1000000000000000) :
  Calls Tryz.prog 64 #[.int .i64 s, .int .i64 n, .int .i64 idx] w (RetS intsT w (digL s idx n)) := by
 go_enter Tryz.func64, Tryz.ntmps64
 go_wp2_with (refine wpList_mkI _ rfl _ _ 38 2 rfl Tryz.underlying38 infoInt w.heap.size n rfl rfl (by omega) (by decide) (by simp) ?_; intro w1 hA hg1 hs1)
 have hb1 := below_of_grown hg1
 go_loopw [8, 2] (fun i q wr => ∃ (k : Nat) (L : List Int), k ≤ n ∧ i = .int .i64 ((n : Int) - 1 - k) ∧ q = .int .i64 (idx / s ^ k) ∧ IR 2 w.heap.size wr w.heap.size n n L ∧ (∀ (j : Nat) (h : j < L.length), n - k ≤ j → L[j] = dig s idx (n - 1 - j)) ∧ Below w.heap.size w wr) (fun i _ _ => ((intOf i) + 1).toNat)
 case atStart => exact ⟨0, _, Nat.zero_le _, by simp, by simp, hA, fun j h hj => by simp at h; omega, hb1⟩
 case round =>
  obtain ⟨k, L, hk, rfl, rfl, hIR, hL, hbel⟩ := hrel
  have hLl := hIR.1
  by_cases hkl : k < n
  ·obtain ⟨j, hj⟩ : ∃ j : Nat, (n : Int) - 1 - k = j := ⟨n - 1 - k, by omega⟩
   have hjn : j < n := by omega
   have hjk : n - 1 - j = k := by omega
   obtain ⟨u0, d0⟩ := hIR.cell hjn
   have d1 := hIR.free j
   have hg := hIR.lt
   have hd := dig_nn (idx := idx) hs k
   have hq := quo_nn hs h0 k
   have hIs := hIR.set j (I64.small (n := dig s idx k) (by omega) (by omega))
   have HQ := Lib.hid (quo_succ (idx := idx) hs k)
   have HDG : Hid ((idx / s ^ k) % s = dig s idx k) := rfl
   have HIS := Lib.hid hIs
   have HLL := Lib.hid hL
   have HIR := Lib.hid hIR
   clear hIs hL hIR hA
   rw [hj]
   go_wp2_with fail
   refine ⟨⟨k + 1, L.set j (dig s idx k), by omega, congrArg _ (by omega), by rw [HQ.out], HIS.out, fun j' h hj' => ?_, hbel.setCell (Nat.le_refl _) _⟩, by simp [intOf]⟩
   by_cases e : j = j'
   ·subst e
    rw [List.getElem_set_self, hjk]
   ·rw [List.getElem_set_ne e]
    exact HLL.out j' (by simpa using h) (by omega)
  ·obtain rfl : k = n := by omega
   have hfr := Lib.hid (hIR.fr (by unfold capMax; omega))
   have HE : Hid (L = digL s idx k) := List.ext_getElem (by rw [hLl, digL_len]) fun j h h' => by rw [hL j h (by omega)]; simp [digL]
   clear hIR hL hA
   go_wp2_with fail
   go_ret
   exact ⟨_, rfl, by rw [← HE.out]; exact hfr.out, hbel⟩
set_option maxHeartbeats 800000 in
set_option maxRecDepth 100000 in
theorem l01Digits_any (w : World) (s idx : Int) (n : Nat) (hs : 1 ≤ s) (hs1 : s ≤ 1000) (hn : n ≤ 5) (h0 : 0 ≤ idx) (h1 : idx ≤ 1000000000000000) :
  Calls Tryz.prog 140 #[.int .i64 s, .int .i64 n, .int .i64 idx] w (RetS intsT w (digL s idx n)) := by
 go_enter Tryz.func140, Tryz.ntmps140
 go_wp2_with (refine wpList_mkI _ rfl _ _ 38 2 rfl Tryz.underlying38 infoInt w.heap.size n rfl rfl (by omega) (by decide) (by simp) ?_; intro w1 hA hg1 hs1)
 have hb1 := below_of_grown hg1
 go_loopw [8, 2] (fun i q wr => ∃ (k : Nat) (L : List Int), k ≤ n ∧ i = .int .i64 ((n : Int) - 1 - k) ∧ q = .int .i64 (idx / s ^ k) ∧ IR 2 w.heap.size wr w.heap.size n n L ∧ (∀ (j : Nat) (h : j < L.length), n - k ≤ j → L[j] = dig s idx (n - 1 - j)) ∧ Below w.heap.size w wr) (fun i _ _ => ((intOf i) + 1).toNat)
 case atStart => exact ⟨0, _, Nat.zero_le _, by simp, by simp, hA, fun j h hj => by simp at h; omega, hb1⟩
 case round =>
  obtain ⟨k, L, hk, rfl, rfl, hIR, hL, hbel⟩ := hrel
  have hLl := hIR.1
  by_cases hkl : k < n
  ·obtain ⟨j, hj⟩ : ∃ j : Nat, (n : Int) - 1 - k = j := ⟨n - 1 - k, by omega⟩
   have hjn : j < n := by omega
   have hjk : n - 1 - j = k := by omega
   obtain ⟨u0, d0⟩ := hIR.cell hjn
   have d1 := hIR.free j
   have hg := hIR.lt
   have hd := dig_nn (idx := idx) hs k
   have hq := quo_nn hs h0 k
   have hIs := hIR.set j (I64.small (n := dig s idx k) (by omega) (by omega))
   have HQ := Lib.hid (quo_succ (idx := idx) hs k)
   have HDG : Hid ((idx / s ^ k) % s = dig s idx k) := rfl
   have HIS := Lib.hid hIs
   have HLL := Lib.hid hL
   have HIR := Lib.hid hIR
   clear hIs hL hIR hA
   rw [hj]
   go_wp2_with fail
   refine ⟨⟨k + 1, L.set j (dig s idx k), by omega, congrArg _ (by omega), by rw [HQ.out], HIS.out, fun j' h hj' => ?_, hbel.setCell (Nat.le_refl _) _⟩, by simp [intOf]⟩
   by_cases e : j = j'
   ·subst e
    rw [List.getElem_set_self, hjk]
   ·rw [List.getElem_set_ne e]
    exact HLL.out j' (by simpa using h) (by omega)
  ·obtain rfl : k = n := by omega
   have hfr := Lib.hid (hIR.fr (by unfold capMax; omega))
   have HE : Hid (L = digL s idx k) := List.ext_getElem (by rw [hLl, digL_len]) fun j h h' => by rw [hL j h (by omega)]; simp [digL]
   clear hIR hL hA
   go_wp2_with fail
   go_ret
   exact ⟨_, rfl, by rw [← HE.out]; exact hfr.out, hbel⟩
end Go.Proofs.YtajmjfbejfiipaaGreat
namespace Go.Proofs.YtajmjfbejfiipaaGreat
open Go.RowKit Go.Sort
set_option maxHeartbeats 400000 in
theorem l01Before_quiet (w : World) {v u : Value} {xs ys : List Int} (h : intsT.Rd w [v] xs) (h' : intsT.Rd w [u] ys) (hn : xs.length ≤ ys.length) (hs : xs.length = ys.length) :
  Calls Tryz.prog 196 #[v, u] w fun e w' => e = .returned (.bool (tb (ltL xs ys))) ∧ Quiet w w' := by
 obtain ⟨ad, cap, hv, hl, hc, hcell⟩ := ints_ex h
 obtain ⟨ad', cap', hv', hl', hc', hcell'⟩ := ints_ex h'
 obtain rfl : v = _ := by simpa using hv
 obtain rfl : u = _ := by simpa using hv'
 have HS := Lib.hid hs
 clear h hv h' hv' hs
 go_enter Tryz.func196, Tryz.ntmps196
 go_wp2_with fail
 go_loopw [5] (fun i wr => ∃ k : Nat, k ≤ xs.length ∧ i = .int .i64 k ∧ xs.take k = ys.take k ∧ Quiet w wr) (fun i _ => xs.length - (intOf i).toNat)
 case atStart => exact ⟨0, Nat.zero_le _, rfl, rfl, Quiet.refl _⟩
 case round =>
  obtain ⟨k, hk, rfl, ht, nq, rfl⟩ := hrel
  have HT := Lib.hid ht
  clear ht
  by_cases hkl : k < xs.length
  ·have hkl' : k < ys.length := by omega
   obtain ⟨b, o, rfl, hb, hce⟩ := hcell (by omega)
   obtain ⟨b', o', rfl, hb', hce'⟩ := hcell' (by omega)
   have d0 := (hce k hkl).2
   have d1 := (hce' k hkl').2
   clear hce hce' hcell hcell'
   cases hq : (xs[k] != ys[k])
   ·go_wp2_with fail
    go_quiet (fail)
    go_wp2_with fail
    go_roundw
    case rel => exact ⟨k + 1, by omega, by go_num, take_eq_succ hkl hkl' HT.out (by simpa using hq), (by first | exact Quiet.refl _ | exact Quiet.drewN _ _ | exact (Quiet.drewN _ _).then (Quiet.drewN _ _) | exact ((Quiet.drewN _ _).then (Quiet.drewN _ _)).then (Quiet.drewN _ _))⟩
    case measure => simp [intOf]; omega
   ·have hc := cmpL_ne HT.out hkl hkl' (by simpa using hq)
    have hr : decide (xs[k] < ys[k]) = tb (ltL xs ys) := by
     rw [Bool.eq_iff_iff, tb_iff, ltL, hc, decide_eq_true_iff]
     rcases ilt xs[k] ys[k] with h | h
     ·rw [cmpI_lt h]; simp [h]
     ·have hne : xs[k] ≠ ys[k] := by simpa using hq
      rw [cmpI_gt (by omega)]; simp; omega
    have HR := Lib.hid hr
    clear hr hc
    go_wp2_with fail
    go_quiet (fail)
    go_wp2_with fail
    go_quiet (fail)
    go_wp2_with fail
    go_ret
    exact ⟨ret_bool HR.out, (by first | exact Quiet.refl _ | exact Quiet.drewN _ _ | exact (Quiet.drewN _ _).then (Quiet.drewN _ _) | exact ((Quiet.drewN _ _).then (Quiet.drewN _ _)).then (Quiet.drewN _ _))⟩
  ·obtain rfl : k = xs.length := by omega
   go_wp2_with fail
   go_ret
   have e : xs = ys := by have := HT.out; rwa [List.take_length, HS.out, List.take_length] at this
   exact ⟨ret_bool (tb_false (by rw [e, ltL, cmpL_self]; omega)).symm, (by first | exact Quiet.refl _ | exact Quiet.drewN _ _ | exact (Quiet.drewN _ _).then (Quiet.drewN _ _) | exact ((Quiet.drewN _ _).then (Quiet.drewN _ _)).then (Quiet.drewN _ _))⟩
set_option maxHeartbeats 1600000 in
theorem l01Ok_quiet (w : World) {v : Value} {r : Int × List (List Int)} (h : relT.Pt w v r) (size : Int) :
  Calls Tryz.prog 127 #[.int .i64 size, v] w fun e w' => e = .returned (.bool (tb (relOk size r))) ∧ Quiet w w' := by
 obtain ⟨b, o, ad, cap, rfl, hb, hI, c0, c1, hx⟩ := pt_pair h
 clear h
 cases hs : inB size 1 4
 ·go_enter Tryz.func127, Tryz.ntmps127
  go_wp2_with (go_at_call 195; refine (l01Size_any _ _).mono ?_; rintro e w' ⟨rfl, rfl⟩)
  go_ret
  exact ⟨ret_bool (tb_false (fun hr => by have := inB_true.2 hr.1; rw [hs] at this; cases this)).symm, Quiet.refl _⟩
 cases ha : inB r.1 1 4
 ·go_enter Tryz.func127, Tryz.ntmps127
  go_wp2_with (first | (go_at_call 195; refine (l01Size_any _ _).mono ?_; rintro e w' ⟨rfl, rfl⟩) | (go_at_call 137; refine (l01Arity_any _ _).mono ?_; rintro e w' ⟨rfl, rfl⟩))
  go_ret
  exact ⟨ret_bool (tb_false (fun hr => by have := inB_true.2 hr.2.1; rw [ha] at this; cases this)).symm, Quiet.refl _⟩
 have hs' := inB_true.1 hs
 have ha' := inB_true.1 ha
 obtain ⟨_, _, e1, hle, hle2, hcell⟩ := slices_ex hx
 simp only [List.cons.injEq, Value.slice.injEq, and_true, true_and] at e1
 obtain ⟨rfl, rfl⟩ := e1
 go_enter Tryz.func127, Tryz.ntmps127
 go_wp2_with (first | (go_at_call 195; refine (l01Size_any _ _).mono ?_; rintro e w' ⟨rfl, rfl⟩) | (go_at_call 137; refine (l01Arity_any _ _).mono ?_; rintro e w' ⟨rfl, rfl⟩))
 go_loopw [5] (fun i wr => ∃ k : Nat, k ≤ r.2.length ∧ i = .int .i64 k ∧ relUp size r k ∧ Quiet w wr) (fun i _ => r.2.length - (intOf i).toNat)
 case atStart => exact ⟨0, Nat.zero_le _, rfl, relUp_zero _ _, Quiet.refl _⟩
 case round =>
  obtain ⟨k, hk, rfl, ht, hqw⟩ := hrel
  have HT := Lib.hid ht
  have d0 := (hqw.below.cell hb).trans c0
  have d1 := (hqw.below.cell hb).trans c1
  clear ht c0 c1
  by_cases hkl : k < r.2.length
  ·obtain ⟨a, q, rfl, haa, hce⟩ := hcell (by omega)
   obtain ⟨u, hu, f0⟩ := hce k hkl
   have g0 := (hqw.below.cell haa).trans f0
   have hu' := hu.below hqw.below
   have cT : ∀ n, Calls Tryz.prog 138 #[.int .i64 size, .int .i64 r.1, u] (wr.drewN n) fun e w'' => e = .returned (.bool (tb (rowOk size r.1 r.2[k]))) ∧ ∃ m, w'' = wr.drewN m := fun n =>
    quiet_call ((l01Tuple_any _ _ _ (hu'.below (Quiet.drewN wr n).below) (by omega) (by omega)).mono fun _ _ ⟨p, q⟩ => ⟨p, q ▸ Quiet.refl _⟩)
   cases hr : tb (rowOk size r.1 r.2[k])
   ·rw [hr] at cT
    clear hcell hce
    go_wp2_with fail
    go_quiet (exact cT _)
    go_wp2_with fail
    go_ret
    exact ⟨ret_bool (tb_false (fun hh => by have := tb_true (hh.2.2 k hkl).1; rw [hr] at this; cases this)).symm, hqw.then (by first | exact Quiet.refl _ | exact Quiet.drewN _ _ | exact (Quiet.drewN _ _).then (Quiet.drewN _ _) | exact ((Quiet.drewN _ _).then (Quiet.drewN _ _)).then (Quiet.drewN _ _))⟩
   have hrow := tb_iff.1 hr
   have HROW := Lib.hid hrow
   rw [hr] at cT
   clear hrow
   by_cases h0 : k = 0
   ·have H0 := Lib.hid h0
    have hg : decide (0 < k) = false := by rw [h0]; rfl
    clear hcell hce h0
    go_wp2_with fail
    go_quiet (exact cT _)
    go_wp2_with fail
    go_roundw
    case rel => exact ⟨k + 1, by omega, by go_num, relUp_succ hkl HT.out HROW.out (fun h => by have := H0.out; omega), hqw.then (by first | exact Quiet.refl _ | exact Quiet.drewN _ _ | exact (Quiet.drewN _ _).then (Quiet.drewN _ _) | exact ((Quiet.drewN _ _).then (Quiet.drewN _ _)).then (Quiet.drewN _ _))⟩
    case measure => simp [intOf]; omega
   ·have h1 : k - 1 < r.2.length := by omega
    obtain ⟨u1, hu1, f1⟩ := hce (k - 1) h1
    have g1 := (hqw.below.cell haa).trans f1
    have hu1' := hu1.below hqw.below
    have hg : decide (0 < k) = true := by simp; omega
    have hl1 : r.2[k - 1].length = r.2[k].length := by
     have p1 := (HT.out (k - 1) h1 (by omega)).1.1
     have p2 := HROW.out.1
     omega
    have cB : ∀ n, Calls Tryz.prog 196 #[u1, u] (wr.drewN n) fun e w'' => e = .returned (.bool (tb (ltL r.2[k - 1] r.2[k]))) ∧ ∃ m, w'' = wr.drewN m := fun n =>
     quiet_call (l01Before_quiet _ (hu1'.below (Quiet.drewN wr n).below) (hu'.below (Quiet.drewN wr n).below) (by omega) hl1)
    have HL := Lib.hid hl1
    clear hcell hce hl1
    go_wp2_with fail
    cases hlt : tb (ltL r.2[k - 1] r.2[k])
    ·rw [hlt] at cB
     go_quiet (first | exact cT _ | exact cB _)
     go_wp2_with fail
     go_ret
     exact ⟨ret_bool (tb_false (fun hh => by have := tb_true ((hh.2.2 k hkl).2 (by omega)); rw [hlt] at this; cases this)).symm, hqw.then (by first | exact Quiet.refl _ | exact Quiet.drewN _ _ | exact (Quiet.drewN _ _).then (Quiet.drewN _ _) | exact ((Quiet.drewN _ _).then (Quiet.drewN _ _)).then (Quiet.drewN _ _))⟩
    ·rw [hlt] at cB
     go_quiet (first | exact cT _ | exact cB _)
     go_wp2_with fail
     go_roundw
     case rel => exact ⟨k + 1, by omega, by go_num, relUp_succ hkl HT.out HROW.out (fun _ => tb_iff.1 hlt), hqw.then (by first | exact Quiet.refl _ | exact Quiet.drewN _ _ | exact (Quiet.drewN _ _).then (Quiet.drewN _ _) | exact ((Quiet.drewN _ _).then (Quiet.drewN _ _)).then (Quiet.drewN _ _))⟩
     case measure => simp [intOf]; omega
  ·obtain rfl : k = r.2.length := by omega
   go_wp2_with fail
   go_ret
   exact ⟨ret_bool (tb_true ⟨hs', ha', fun i h => HT.out i h h⟩).symm, hqw⟩
end Go.Proofs.YtajmjfbejfiipaaGreat
namespace Go.Proofs.YtajmjfbejfiipaaGreat
open Go.RowKit Go.Sort
theorem geq_cmp (xs ys : List Int) : decide (0 ≤ cmpL xs ys) = !tb (ltL xs ys) := by
 rw [tb_not, Bool.eq_iff_iff, tb_iff, ltL, decide_eq_true_iff]; omega
set_option maxHeartbeats 1600000 in
theorem ValidRel_any (w : World) {cs : Array Value} {r : Int × List (List Int)} (h : relT.Rd w cs.toList r) (size : Int) :
  Calls Tryz.prog 53 #[.int .i64 size, .agg cs] w fun e w' => e = .returned (.bool (tb (relOk size r))) ∧ Below w.heap.size w w' := by
 obtain ⟨v, hv, hI, hx⟩ := pair_ex h
 obtain rfl := agg_of hv
 obtain ⟨ad, cap, rfl⟩ := rd_slice hx
 clear h hv
 cases hs : inB size 1 4
 ·go_enter Tryz.func53, Tryz.ntmps53
  go_wp2_with (go_at_call 80; refine (isSize_any _ _).mono ?_; rintro e w' ⟨rfl, rfl⟩)
  go_ret
  exact ⟨ret_bool (tb_false (fun hr => by have := inB_true.2 hr.1; rw [hs] at this; cases this)).symm, (by repeat (first | exact Below.refl _ _ | exact bA | assumption | refine Below.setCell ?_ (by first | omega | (simp; try omega)) _ | refine Below.alloc ?_ (by first | omega | (simp; try omega)) _ | refine Below.drew ?_ | refine bDN ?_ | refine bthen ?_ (by assumption)))⟩
 cases ha : inB r.1 1 4
 ·go_enter Tryz.func53, Tryz.ntmps53
  go_wp2_with (first | (go_at_call 80; refine (isSize_any _ _).mono ?_; rintro e w' ⟨rfl, rfl⟩) | (go_at_call 81; refine (isArity_any _ _).mono ?_; rintro e w' ⟨rfl, rfl⟩))
  go_ret
  exact ⟨ret_bool (tb_false (fun hr => by have := inB_true.2 hr.2.1; rw [ha] at this; cases this)).symm, (by repeat (first | exact Below.refl _ _ | exact bA | assumption | refine Below.setCell ?_ (by first | omega | (simp; try omega)) _ | refine Below.alloc ?_ (by first | omega | (simp; try omega)) _ | refine Below.drew ?_ | refine bDN ?_ | refine bthen ?_ (by assumption)))⟩
 have hs' := inB_true.1 hs
 have ha' := inB_true.1 ha
 obtain ⟨_, _, e1, hle, hle2, hcell⟩ := slices_ex hx
 simp only [List.cons.injEq, Value.slice.injEq, and_true, true_and] at e1
 obtain ⟨rfl, rfl⟩ := e1
 go_enter Tryz.func53, Tryz.ntmps53
 go_wp2_with (first | (go_at_call 80; refine (isSize_any _ _).mono ?_; rintro e w' ⟨rfl, rfl⟩) | (go_at_call 81; refine (isArity_any _ _).mono ?_; rintro e w' ⟨rfl, rfl⟩))
 go_loopw [19] (fun i wr => ∃ k : Nat, k ≤ r.2.length ∧ i = .int .i64 k ∧ relUp size r k ∧ Below w.heap.size w wr ∧ w.heap.size < wr.heap.size ∧ wr.cell? ⟨w.heap.size, 0, none⟩ = some (.int .i64 r.1) ∧ wr.cell? ⟨w.heap.size, 1, none⟩ = some (.slice ad r.2.length cap)) (fun i _ => r.2.length - (intOf i).toNat)
 case atStart => exact ⟨0, Nat.zero_le _, rfl, relUp_zero _ _, (by repeat (first | exact Below.refl _ _ | exact bA | assumption | refine Below.setCell ?_ (by first | omega | (simp; try omega)) _ | refine Below.alloc ?_ (by first | omega | (simp; try omega)) _ | refine Below.drew ?_ | refine bDN ?_ | refine bthen ?_ (by assumption))), by simp, by simp, by simp⟩
 case round =>
  obtain ⟨k, hk, rfl, ht, hbel, hz, b0, b1⟩ := hrel
  have HT := Lib.hid ht
  clear ht
  by_cases hkl : k < r.2.length
  ·obtain ⟨a, q, rfl, haa, hce⟩ := hcell (by omega)
   obtain ⟨u, hu, f0⟩ := hce k hkl
   have g0 := (hbel.cell haa).trans f0
   cases hr : tb (rowOk size r.1 r.2[k])
   ·clear hcell hce
    go_wp2_with fail
    refine (areValues_any _ (hu.below hbel) _ _ (by omega) (by omega)).mono ?_
    rintro e w1 ⟨rfl, hb1⟩
    rw [hr]
    go_wp2_with fail
    go_ret
    exact ⟨ret_bool (tb_false (fun hh => by have := tb_true (hh.2.2 k hkl).1; rw [hr] at this; cases this)).symm, bthen hbel hb1⟩
   have HROW := Lib.hid (tb_iff.1 hr)
   by_cases h0 : k = 0
   ·have H0 := Lib.hid h0
    have hg : decide (0 < k) = false := by rw [h0]; rfl
    clear hcell hce h0
    go_wp2_with fail
    refine (areValues_any _ (hu.below hbel) _ _ (by omega) (by omega)).mono ?_
    rintro e w1 ⟨rfl, hb1⟩
    rw [hr]
    have c0 := (hb1.cell hz).trans b0
    have c1 := (hb1.cell hz).trans b1
    have hz1 : w.heap.size < w1.heap.size := Nat.lt_of_lt_of_le hz hb1.size
    go_wp2_with fail
    go_roundw
    case rel => exact ⟨k + 1, by omega, by go_num, relUp_succ hkl HT.out HROW.out (fun h => by have := H0.out; omega), bthen hbel hb1, hz1, c0, c1⟩
    case measure => simp [intOf]; omega
   ·have h1 : k - 1 < r.2.length := by omega
    obtain ⟨u1, hu1, f1⟩ := hce (k - 1) h1
    have hg : decide (0 < k) = true := by simp; omega
    have hgeq := geq_cmp r.2[k - 1] r.2[k]
    clear hcell hce
    go_wp2_with fail
    refine (areValues_any _ (hu.below hbel) _ _ (by omega) (by omega)).mono ?_
    rintro e w1 ⟨rfl, hb1⟩
    rw [hr]
    have hbel1 := bthen hbel hb1
    have c0 := (hb1.cell hz).trans b0
    have c1 := (hb1.cell hz).trans b1
    have g1 := (hbel1.cell haa).trans f1
    have hz1 : w.heap.size < w1.heap.size := Nat.lt_of_lt_of_le hz hb1.size
    clear b0 b1 g0 hb1 hbel
    cases hlt : tb (ltL r.2[k - 1] r.2[k])
    ·rw [hlt] at hgeq
     go_wp2_with fail
     refine (Compare_any _ (hu1.below hbel1) (hu.below hbel1)).mono ?_
     rintro e w2 ⟨rfl, rfl⟩
     go_wp2_with fail
     go_ret
     exact ⟨ret_bool (tb_false (fun hh => by have := tb_true ((hh.2.2 k hkl).2 (by omega)); rw [hlt] at this; cases this)).symm, hbel1⟩
    ·rw [hlt] at hgeq
     go_wp2_with fail
     refine (Compare_any _ (hu1.below hbel1) (hu.below hbel1)).mono ?_
     rintro e w2 ⟨rfl, rfl⟩
     go_wp2_with fail
     go_roundw
     case rel => exact ⟨k + 1, by omega, by go_num, relUp_succ hkl HT.out HROW.out (fun _ => tb_iff.1 hlt), hbel1, hz1, c0, c1⟩
     case measure => simp [intOf]; omega
  ·obtain rfl : k = r.2.length := by omega
   go_wp2_with fail
   go_ret
   exact ⟨ret_bool (tb_true ⟨hs', ha', fun i h => HT.out i h h⟩).symm, hbel⟩
theorem ValidTemplate1_any (w : World) {cs : Array Value} {r : Int × List (List Int)} (h : relT.Rd w cs.toList r) (size : Int) (b : Nat) (hb : b < w.heap.size) (hc : w.cell? ⟨b, 0, none⟩ = some (.int .i64 size)) :
  Calls Tryz.prog 169 #[.agg cs, .pointer (some ⟨b, 0, none⟩)] w fun e w' => e = .returned (.bool (!tb (relOk size r))) ∧ Below w.heap.size w w' := by
 have hx := h
 obtain ⟨v, hv, hI, -⟩ := pair_ex h
 obtain rfl := agg_of hv
 clear h hv
 go_enter Tryz.func169, Tryz.ntmps169
 go_wp2_with fail
 refine (ValidRel_any _ (hx.below bA) size).mono ?_
 rintro e w1 ⟨rfl, hb1⟩
 go_wp2_with fail
 go_ret
 exact ⟨rfl, (by repeat (first | exact Below.refl _ _ | exact bA | assumption | refine Below.setCell ?_ (by first | omega | (simp; try omega)) _ | refine Below.alloc ?_ (by first | omega | (simp; try omega)) _ | refine Below.drew ?_ | refine bDN ?_ | refine bthen ?_ (by assumption)))⟩
theorem tplOk_any {t : Int × List (Int × List (List Int))} (h0 : sizeOk t.1) (h1 : t.2.length ≤ 6) : (!anyB (fun r => !tb (relOk t.1 r)) t.2) = tb (tplOk t) := by
 rw [Bool.eq_iff_iff, tb_iff]
 simp only [anyB, tplOk, h0, h1, true_and, Bool.not_eq_true', List.any_eq_false, Bool.not_eq_false, tb_iff]
theorem ValidTemplate_any (w : World) {cs : Array Value} {t : Int × List (Int × List (List Int))} (h : tplT.Rd w cs.toList t) :
  Calls Tryz.prog 92 #[.agg cs] w fun e w' => e = .returned (.bool (tb (tplOk t))) ∧ Below w.heap.size w w' := by
 obtain ⟨v, hv, hI, hx⟩ := pair_ex h
 obtain rfl := agg_of hv
 obtain ⟨ad, cap, rfl⟩ := rd_slice hx
 clear h hv
 cases hs : inB t.1 1 4
 ·go_enter Tryz.func92, Tryz.ntmps92
  go_wp2_with (go_at_call 80; refine (isSize_any _ _).mono ?_; rintro e w' ⟨rfl, rfl⟩)
  go_ret
  exact ⟨ret_bool (tb_false (fun hr => by have := inB_true.2 hr.1; rw [hs] at this; cases this)).symm, (by repeat (first | exact Below.refl _ _ | exact bA | assumption | refine Below.setCell ?_ (by first | omega | (simp; try omega)) _ | refine Below.alloc ?_ (by first | omega | (simp; try omega)) _ | refine Below.drew ?_ | refine bDN ?_ | refine bthen ?_ (by assumption)))⟩
 have hs' := inB_true.1 hs
 by_cases hl : t.2.length ≤ 6
 rotate_left
 ·have hl' : decide (t.2.length ≤ 6) = false := by simpa using hl
  have hl2 : decide ((t.2.length : Int) ≤ 6) = false := by simp; omega
  have HL := Lib.hid hl
  clear hl
  go_enter Tryz.func92, Tryz.ntmps92
  go_wp2_with (go_at_call 80; refine (isSize_any _ _).mono ?_; rintro e w' ⟨rfl, rfl⟩)
  go_ret
  exact ⟨ret_bool (tb_false (fun hr => HL.out hr.2.1)).symm, (by repeat (first | exact Below.refl _ _ | exact bA | assumption | refine Below.setCell ?_ (by first | omega | (simp; try omega)) _ | refine Below.alloc ?_ (by first | omega | (simp; try omega)) _ | refine Below.drew ?_ | refine bDN ?_ | refine bthen ?_ (by assumption)))⟩
 have hl2 : decide ((t.2.length : Int) ≤ 6) = true := by simp; omega
 have HT := Lib.hid (tplOk_any hs' hl)
 clear hs'
 go_enter Tryz.func92, Tryz.ntmps92
 go_wp2_with (go_at_call 80; refine (isSize_any _ _).mono ?_; rintro e w' ⟨rfl, rfl⟩)
 refine (ContainsFuncRel_any _ (hx.below bA) (fun r => !tb (relOk t.1 r)) 169 #[.pointer (some ⟨w.heap.size, 0, none⟩)] (enters Tryz.func169 (by kernel_rfl) rfl) (fun W hW k hk cs hcs => ValidTemplate1_any W hcs t.1 w.heap.size ?_ ?_)).mono ?_
 ·have := hW.size; simp at this; omega
 ·rw [hW.cell (by simp)]; simp
 rintro e w1 ⟨rfl, hb1⟩
 go_wp2_with fail
 go_ret
 exact ⟨ret_bool HT.out, (by repeat (first | exact Below.refl _ _ | exact bA | assumption | refine Below.setCell ?_ (by first | omega | (simp; try omega)) _ | refine Below.alloc ?_ (by first | omega | (simp; try omega)) _ | refine Below.drew ?_ | refine bDN ?_ | refine bthen ?_ (by assumption)))⟩
theorem pt_tpl_elem {w : World} {b o n cap : Nat} {xs : List (Int × List (List Int))} (h : relsT.Rd w [.slice (some ⟨b, o, none⟩) n cap] xs) {k : Nat} (hk : k < xs.length) : relT.Pt w (.pointer (some ⟨b, o + k * 2, none⟩)) xs[k] := pt_elem h hk
set_option maxHeartbeats 800000 in
theorem l01Template_quiet (w : World) {v : Value} {t : Int × List (Int × List (List Int))} (h : tplT.Pt w v t) :
  Calls Tryz.prog 135 #[v] w fun e w' => e = .returned (.bool (tb (tplOk t))) ∧ Quiet w w' := by
 obtain ⟨b, o, ad, cap, rfl, hb, hI, c0, c1, hx⟩ := pt_pair h
 clear h
 obtain ⟨_, _, e1, hle, hle2, hcell⟩ := pairs_ex hx
 simp only [List.cons.injEq, Value.slice.injEq, and_true, true_and] at e1
 obtain ⟨rfl, rfl⟩ := e1
 go_enter Tryz.func135, Tryz.ntmps135
 go_wp2_with fail
 go_loopw [3] (fun i wr => ∃ k : Nat, k ≤ t.2.length ∧ i = .int .i64 k ∧ noneB (fun r => !tb (relOk t.1 r)) (t.2.take k) ∧ Quiet w wr) (fun i _ => t.2.length - (intOf i).toNat)
 case atStart => exact ⟨0, Nat.zero_le _, rfl, noneB_zero _ _, Quiet.refl _⟩
 case round =>
  obtain ⟨k, hk, rfl, ht, hqw⟩ := hrel
  have HT := Lib.hid ht
  have d0 := (hqw.below.cell hb).trans c0
  have d1 := (hqw.below.cell hb).trans c1
  clear ht c0 c1
  by_cases hkl : k < t.2.length
  ·obtain ⟨a, q, rfl, haa, -⟩ := hcell (by omega)
   have p := (pt_tpl_elem hx hkl).below hqw.below
   have cT : ∀ n, Calls Tryz.prog 127 #[.int .i64 t.1, .pointer (some ⟨a, q + k * 2, none⟩)] (wr.drewN n) fun e w'' => e = .returned (.bool (tb (relOk t.1 t.2[k]))) ∧ ∃ m, w'' = wr.drewN m := fun n =>
    quiet_call (l01Ok_quiet _ (p.below (Quiet.drewN wr n).below) t.1)
   cases hr : tb (relOk t.1 t.2[k])
   ·rw [hr] at cT
    go_wp2_with fail
    go_quiet (exact cT _)
    go_wp2_with fail
    go_ret
    exact ⟨ret_bool (tb_false (fun hh => by have := tb_true (hh.2.2 _ (List.getElem_mem hkl)); rw [hr] at this; cases this)).symm, hqw.then (by first | exact Quiet.refl _ | exact Quiet.drewN _ _ | exact (Quiet.drewN _ _).then (Quiet.drewN _ _) | exact ((Quiet.drewN _ _).then (Quiet.drewN _ _)).then (Quiet.drewN _ _))⟩
   ·rw [hr] at cT
    go_wp2_with fail
    go_quiet (exact cT _)
    go_wp2_with fail
    go_roundw
    case rel => exact ⟨k + 1, by omega, by go_num, noneB_succ hkl HT.out (by rw [hr]; rfl), hqw.then (by first | exact Quiet.refl _ | exact Quiet.drewN _ _ | exact (Quiet.drewN _ _).then (Quiet.drewN _ _) | exact ((Quiet.drewN _ _).then (Quiet.drewN _ _)).then (Quiet.drewN _ _))⟩
    case measure => simp [intOf]; omega
  ·obtain rfl : k = t.2.length := by omega
   have hall : ∀ r ∈ t.2, relOk t.1 r := fun r hr => by
    have := HT.out r (by rw [List.take_length]; exact hr)
    simpa [tb_iff] using this
   have HALL := Lib.hid hall
   clear hall
   cases hs : inB t.1 1 4
   ·go_wp2_with (go_at_call 195; refine (l01Size_any _ _).mono ?_; rintro e w' ⟨rfl, rfl⟩)
    go_ret
    exact ⟨ret_bool (tb_false (fun hr => by have := inB_true.2 hr.1; rw [hs] at this; cases this)).symm, hqw⟩
   have hs' := inB_true.1 hs
   have HR : Hid (decide ((t.2.length : Int) ≤ 6) = tb (tplOk t)) := by
    unfold Hid
    rw [Bool.eq_iff_iff, tb_iff, decide_eq_true_iff]
    exact ⟨fun h => ⟨hs', by omega, HALL.out⟩, fun h => by have := h.2.1; omega⟩
   go_wp2_with (go_at_call 195; refine (l01Size_any _ _).mono ?_; rintro e w' ⟨rfl, rfl⟩)
   go_ret
   exact ⟨ret_bool HR.out, hqw⟩
end Go.Proofs.YtajmjfbejfiipaaGreat
namespace Go.Proofs.YtajmjfbejfiipaaGreat
open Go.RowKit Go.Sort
theorem rd_elem {α : Type} {E : Ty α} {w : World} {ad : Option Addr} {cap : Nat} {xs : List α} (h : (Ty.slice E).Rd w [.slice ad xs.length cap] xs) {k : Nat} (hk : k < xs.length) :
  ∃ b o, ad = some ⟨b, o, none⟩ ∧ E.Pt w (.pointer (some ⟨b, o + k * E.sz, none⟩)) xs[k] := by
 obtain ⟨ad', cap', hv, _, _, h3⟩ := Ty.slice_ex h
 simp only [List.cons.injEq, Value.slice.injEq, and_true] at hv
 obtain ⟨rfl, -, rfl⟩ := hv
 obtain ⟨b, o, rfl, _⟩ := h3 (by omega)
 exact ⟨b, o, rfl, pt_elem h hk⟩
theorem arityOf_any (w : World) {cs : Array Value} {t : Int × List (Int × List (List Int))} (h : tplT.Rd w cs.toList t) (rel : Int) :
  Calls Tryz.prog 153 #[.agg cs, .int .i64 rel] w fun e w' => e = .returned (.int .i64 (arOf t rel)) ∧ Below w.heap.size w w' := by
 obtain ⟨v, hv, hI, hx⟩ := pair_ex h
 obtain rfl := agg_of hv
 obtain ⟨ad, cap, rfl⟩ := rd_slice hx
 clear h hv
 obtain ⟨_, _, -, hle, hle2, -⟩ := pairs_ex hx
 cases h1 : (rel == -1)
 rotate_left
 ·have HE : Hid (arOf t rel = 2) := by unfold Hid; rw [eq_of_beq h1]; exact arOf_eq t
  go_enter Tryz.func153, Tryz.ntmps153
  go_wp2_with fail
  go_ret
  exact ⟨ret_int HE.out.symm, (by repeat (first | exact Below.refl _ _ | exact bA | assumption | refine Below.setCell ?_ (by first | omega | (simp; try omega)) _ | refine Below.alloc ?_ (by first | omega | (simp; try omega)) _ | refine Below.drew ?_ | refine bDN ?_ | refine bthen ?_ (by assumption)))⟩
 have HN : Hid (rel ≠ -1) := by unfold Hid; simpa using h1
 cases h2 : inB rel 0 ((t.2.length : Int) - 1)
 ·go_enter Tryz.func153, Tryz.ntmps153
  go_wp2_with (go_at_call 103; refine (within_any _ _ _ _).mono ?_; rintro e w' ⟨rfl, rfl⟩)
  go_ret
  exact ⟨ret_int (arOf_no HN.out h2).symm, (by repeat (first | exact Below.refl _ _ | exact bA | assumption | refine Below.setCell ?_ (by first | omega | (simp; try omega)) _ | refine Below.alloc ?_ (by first | omega | (simp; try omega)) _ | refine Below.drew ?_ | refine bDN ?_ | refine bthen ?_ (by assumption)))⟩
 have hk := inB_true.1 h2
 obtain ⟨k, rfl⟩ : ∃ k : Nat, rel = k := ⟨rel.toNat, by omega⟩
 have hkl : k < t.2.length := by omega
 obtain ⟨a, q, rfl, hp⟩ := rd_elem hx hkl
 have hp' : relT.Pt w (.pointer (some ⟨a, q + k * 2, none⟩)) t.2[k] := hp
 obtain ⟨b, o, ad', cap', hbo, hb, -, c0, -, -⟩ := pt_pair hp'
 clear hp hp'
 simp only [Value.pointer.injEq, Option.some.injEq, Addr.mk.injEq, and_true] at hbo
 obtain ⟨rfl, rfl⟩ := hbo
 go_enter Tryz.func153, Tryz.ntmps153
 go_wp2_with (go_at_call 103; refine (within_any _ _ _ _).mono ?_; rintro e w' ⟨rfl, rfl⟩)
 go_ret
 exact ⟨ret_int (arOf_nat hkl).symm, (by repeat (first | exact Below.refl _ _ | exact bA | assumption | refine Below.setCell ?_ (by first | omega | (simp; try omega)) _ | refine Below.alloc ?_ (by first | omega | (simp; try omega)) _ | refine Below.drew ?_ | refine bDN ?_ | refine bthen ?_ (by assumption)))⟩
theorem isAtom_any (w : World) {cs : Array Value} {a : Int × List Int} (h : opT.Rd w cs.toList a) (ar vars : Int) (h0 : 0 ≤ vars) (h1 : vars ≤ 1000000000000) :
  Calls Tryz.prog 154 #[.agg cs, .int .i64 ar, .int .i64 vars] w fun e w' => e = .returned (.bool (tb (rowOk vars ar a.2))) ∧ Below w.heap.size w w' := by
 obtain ⟨v, hv, hI, hx⟩ := pair_ex h
 obtain rfl := agg_of hv
 clear h hv
 go_enter Tryz.func154, Tryz.ntmps154
 go_wp2_with fail
 refine (areValues_any _ (hx.below bA) _ _ h0 h1).mono ?_
 rintro e w1 ⟨rfl, hb1⟩
 go_wp2_with fail
 go_ret
 exact ⟨rfl, (by repeat (first | exact Below.refl _ _ | exact bA | assumption | refine Below.setCell ?_ (by first | omega | (simp; try omega)) _ | refine Below.alloc ?_ (by first | omega | (simp; try omega)) _ | refine Below.drew ?_ | refine bDN ?_ | refine bthen ?_ (by assumption)))⟩
theorem isFrame_any (w : World) {cs : Array Value} {f : Int × Int × List (Int × List Int)} (h : frmT.Rd w cs.toList f) :
  Calls Tryz.prog 151 #[.agg cs] w fun e w' => e = .returned (.bool (tb (frameOk f))) ∧ Below w.heap.size w w' := by
 obtain ⟨v, hv, hI, hI2, hx⟩ := trip_ex h
 obtain rfl := agg_of hv
 obtain ⟨ad, cap, rfl⟩ := rd_slice hx
 clear h hv
 cases h1 : inB f.1 1 4
 ·go_enter Tryz.func151, Tryz.ntmps151
  go_wp2_with (go_at_call 81; refine (isArity_any _ _).mono ?_; rintro e w' ⟨rfl, rfl⟩)
  go_ret
  exact ⟨ret_bool (tb_false (fun hr => by have := inB_true.2 hr.1; rw [h1] at this; cases this)).symm, (by repeat (first | exact Below.refl _ _ | exact bA | assumption | refine Below.setCell ?_ (by first | omega | (simp; try omega)) _ | refine Below.alloc ?_ (by first | omega | (simp; try omega)) _ | refine Below.drew ?_ | refine bDN ?_ | refine bthen ?_ (by assumption)))⟩
 cases h2 : inB f.2.1 f.1 8
 ·go_enter Tryz.func151, Tryz.ntmps151
  go_wp2_with (first | (go_at_call 81; refine (isArity_any _ _).mono ?_; rintro e w' ⟨rfl, rfl⟩) | (go_at_call 103; refine (within_any _ _ _ _).mono ?_; rintro e w' ⟨rfl, rfl⟩))
  go_ret
  exact ⟨ret_bool (tb_false (fun hr => by have := inB_true.2 hr.2.1; rw [h2] at this; cases this)).symm, (by repeat (first | exact Below.refl _ _ | exact bA | assumption | refine Below.setCell ?_ (by first | omega | (simp; try omega)) _ | refine Below.alloc ?_ (by first | omega | (simp; try omega)) _ | refine Below.drew ?_ | refine bDN ?_ | refine bthen ?_ (by assumption)))⟩
 have HR : Hid (decide ((f.2.2.length : Int) ≤ 16) = tb (frameOk f)) := by
  unfold Hid
  rw [Bool.eq_iff_iff, tb_iff, decide_eq_true_iff]
  exact ⟨fun h => ⟨inB_true.1 h1, inB_true.1 h2, by omega⟩, fun h => by have := h.2.2; omega⟩
 go_enter Tryz.func151, Tryz.ntmps151
 go_wp2_with (first | (go_at_call 81; refine (isArity_any _ _).mono ?_; rintro e w' ⟨rfl, rfl⟩) | (go_at_call 103; refine (within_any _ _ _ _).mono ?_; rintro e w' ⟨rfl, rfl⟩))
 go_ret
 exact ⟨ret_bool HR.out, (by repeat (first | exact Below.refl _ _ | exact bA | assumption | refine Below.setCell ?_ (by first | omega | (simp; try omega)) _ | refine Below.alloc ?_ (by first | omega | (simp; try omega)) _ | refine Below.drew ?_ | refine bDN ?_ | refine bthen ?_ (by assumption)))⟩
end Go.Proofs.YtajmjfbejfiipaaGreat
