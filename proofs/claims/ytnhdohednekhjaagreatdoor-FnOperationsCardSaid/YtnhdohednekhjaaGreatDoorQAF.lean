/-
A region that draws its order and holds one alloc and one store into it besides loads and calls that make new memory: one account serves every order. The box's block is a ghost. No program is named here.
Contracts: the program's tests of a kind that build lists: associative; three orders of two values and a third.
Contracts: sameness of formulas and instances, in the program and in the reference.
Contracts: whether an operation is of a kind, the program's.
-/
import Derived.Test.YtnhdohednekhjaaGreatDoorQAB
import Derived.Test.YtnhdohednekhjaaGreatDoorQAE
import Derived.Test.YtnhdohednekhjaaGreatDoorQAD
import Derived.Test.YtnhdohednekhjaaGreatDoorQAA
namespace Go.Proofs.YtnhdohednekhjaaGreatDoor
open Go.RowKit

/-- a predicate of a value, told which block is the box -/
abbrev OP := Option Nat → VP
inductive Tag | plain | alloc | store
 deriving DecidableEq

/-- all blocks but one are as before -/
structure Bx (b : Nat) (w w' : World) : Prop where
 os : w'.os = w.os
 tape : w'.tape = w.tape
 output : w'.output = w.output
 size : w.heap.size ≤ w'.heap.size
 block : ∀ k, k < w.heap.size → k ≠ b → w'.heap[k]? = w.heap[k]?
 cells : ∀ j, (∃ u, w.cell? ⟨b, j, none⟩ = some u) → ∃ u, w'.cell? ⟨b, j, none⟩ = some u
 frozen : ∀ j, w'.frozen? ⟨b, j, none⟩ = w.frozen? ⟨b, j, none⟩
theorem Bx.setCell (b o : Nat) (w : World) (u : Value) : Bx b w (w.setCell ⟨b, o, none⟩ u) :=
 ⟨rfl, rfl, rfl, by simp [World.setCell], fun k _ hk => Below.heap_setCell _ _ _ _ hk, fun _ ⟨_, h⟩ => cell?_setCell_some h, fun _ => World.frozen?_setCell _ _ _ _⟩
theorem Bx.trans {b : Nat} {w w' w'' : World} (h : Bx b w w') (k : Bx b w' w'') : Bx b w w'' :=
 ⟨k.os.trans h.os, k.tape.trans h.tape, k.output.trans h.output, Nat.le_trans h.size k.size, fun i hi hb => (k.block i (Nat.lt_of_lt_of_le hi h.size) hb).trans (h.block i hi hb), fun j hj => k.cells j (h.cells j hj), fun j => (k.frozen j).trans (h.frozen j)⟩
theorem Bx.refl (b : Nat) (w : World) : Bx b w w := ⟨rfl, rfl, rfl, Nat.le_refl _, fun _ _ _ => rfl, fun _ h => h, fun _ => rfl⟩

/-- what an operation of a kind may do -/
def StepT : Tag → Option Nat → World → Option Nat → World → Prop
 | .plain, o, w, o', w' => o' = o ∧ Below w.heap.size w w'
 | .alloc, _, w, o', w' => o' = some w.heap.size ∧ w.heap.size < w'.heap.size ∧ Below w.heap.size w w'
 | .store, o, w, o', w' => ∃ b, o = some b ∧ o' = some b ∧ Bx b w w'

def boxUpon (P : Program) (g : Tag) (o : Option Nat) (w : World) (Φ : OP) : Result Next → Prop
 | .ok (.value v) w' => ∃ o', StepT g o w o' w' ∧ Φ o' v w'
 | .ok .skip w' => ∃ o', StepT g o w o' w' ∧ Φ o' undef w'
 | .ok (.enter f args) w' => g = .plain ∧ Below w.heap.size w w' ∧ Calls P f args w' fun e w'' => ∃ v, e = .returned v ∧ Below w'.heap.size w' w'' ∧ Φ o v w''
 | _ => False

def writer2 : List Oper → List (Tag × OP) → Tmp → Option OP
 | o :: l, Φ :: Φs, t => if o.dst = some t then some Φ.2 else writer2 l Φs t
 | _, _, _ => none

def slotP2 (l : List Oper) (Φs : List (Tag × OP)) (a : Act) (t : Tmp) : OP := match writer2 l Φs t with
 | some Φ => Φ
 | none => fun _ v _ => v = a.eval (.tmp t)

def JAt2 (P : Program) (l : List Oper) (Φs : List (Tag × OP)) (a : Act) (w : World) (q : Oper) (Φ : Tag × OP) : Prop :=
 ∀ (a' : Act) (w' : World) (o : Option Nat), Below w.heap.size w w' → (∀ b, o = some b → w.heap.size ≤ b ∧ b < w'.heap.size) → (Φ.1 = .alloc → o = none) →
  (∀ t, readsB q t = true → slotP2 l Φs a t o (a'.eval (.tmp t)) w') → boxUpon P Φ.1 o w' Φ.2 ((execOp a'.eval q).run P w')

def JAll2 (P : Program) (l : List Oper) (Φs : List (Tag × OP)) (a : Act) (w : World) : List Oper → List (Tag × OP) → Prop
 | o :: r, Φ :: Φr => JAt2 P l Φs a w o Φ ∧ JAll2 P l Φs a w r Φr
 | [], [] => True
 | _, _ => False

def HAll2 (w : World) (b : Option Nat) : List Oper → List (Tag × OP) → List Value → Prop
 | _ :: l, Φ :: Φs, v :: vs => Φ.2 b v w ∧ HAll2 w b l Φs vs
 | [], [], [] => True
 | _, _, _ => False

/-- predicates that outlast new memory, and the box's being made -/
def StabO (Φ : OP) : Prop := (∀ o v w1 w2, Φ o v w1 → Below w1.heap.size w1 w2 → Φ o v w2) ∧ (∀ v w1 w2, Φ none v w1 → Below w1.heap.size w1 w2 → Φ (some w1.heap.size) v w2)
/-- .. and a store into the box -/
def StabS (Φ : OP) : Prop := ∀ b v w1 w2, Φ (some b) v w1 → Bx b w1 w2 → Φ (some b) v w2
def Indep (Φ : OP) : Prop := ∀ o v v' w, Φ o v w → Φ o v' w
def StG : Tag → OP → Prop
 | .store, Φ => StabO Φ ∧ Indep Φ
 | _, Φ => StabO Φ ∧ StabS Φ
def SAll2 : List (Tag × OP) → Prop
 | Φ :: Φs => StG Φ.1 Φ.2 ∧ SAll2 Φs
 | [] => True
theorem SAll2_mem : ∀ {Φs : List (Tag × OP)}, SAll2 Φs → ∀ Φ ∈ Φs, StG Φ.1 Φ.2
 | _ :: _, h, Φ, hm => by
  rcases List.mem_cons.1 hm with rfl | hm
  ·exact h.1
  ·exact SAll2_mem h.2 Φ hm
theorem StG.o {g : Tag} {Φ : OP} (h : StG g Φ) : StabO Φ := by cases g <;> exact h.1
theorem StG.s {g : Tag} {Φ : OP} (h : StG g Φ) (hg : g ≠ .store) : StabS Φ := by
 cases g
 ·exact h.2
 ·exact h.2
 ·exact absurd rfl hg

def oneTag (g : Tag) : List Tag → Bool
 | [] => true
 | x :: r => if x = g then r.all (fun y => decide (y ≠ g)) else oneTag g r
theorem oneTag_spec {g : Tag} : ∀ {l : List Tag}, oneTag g l = true → ∀ i j : Nat, l[i]? = some g → l[j]? = some g → i = j
 | [], _, i, j, h, _ => by simp at h
 | x :: r, h, i, j, hi, hj => by
  unfold oneTag at h
  split at h
  ·rename_i hx
   have hno : ∀ k : Nat, r[k]? = some g → False := fun k hk => by
    have := List.all_eq_true.1 h g (List.mem_of_getElem? hk)
    simp at this
   match i, j with
   | 0, 0 => rfl
   | 0, j + 1 => exact (hno j (by simpa using hj)).elim
   | i + 1, _ => exact (hno i (by simpa using hi)).elim
  ·rename_i hx
   match i, j with
   | 0, _ => simp at hi; exact absurd hi hx
   | _ + 1, 0 => simp at hj; exact absurd hj hx
   | i + 1, j + 1 => rw [oneTag_spec h i j (by simpa using hi) (by simpa using hj)]
/-- what holds of the region's form -/
def boxB (l : List Oper) (gs : List Tag) (n : Nat) : Bool :=
 looseB l n && oneTag .alloc gs && oneTag .store gs && (l.zip gs).all (fun x => x.1.dst.isSome || decide (x.2 = .store))

theorem writer2_some {l : List Oper} {Φs : List (Tag × OP)} {t : Tmp} {Φ : OP} (h : writer2 l Φs t = some Φ) : ∃ (j : Nat) (o : Oper) (g : Tag), l[j]? = some o ∧ o.dst = some t ∧ Φs[j]? = some (g, Φ) := by
 induction l generalizing Φs with
 | nil => simp [writer2] at h
 | cons o l ih =>
  cases Φs with
  | nil => simp [writer2] at h
  | cons Φ' Φs =>
   simp only [writer2] at h
   split at h
   ·rename_i hd
    obtain rfl : Φ'.2 = Φ := by simpa using h
    exact ⟨0, o, Φ'.1, rfl, hd, rfl⟩
   ·obtain ⟨j, o', g, h1, h2, h3⟩ := ih h
    exact ⟨j + 1, o', g, h1, h2, h3⟩
theorem writer2_none {l : List Oper} {Φs : List (Tag × OP)} {t : Tmp} (hl : l.length = Φs.length) (h : writer2 l Φs t = none) : ∀ (j : Nat) (o : Oper), l[j]? = some o → o.dst ≠ some t := by
 induction l generalizing Φs with
 | nil => intro j o h; simp at h
 | cons q l ih =>
  cases Φs with
  | nil => simp at hl
  | cons Φ' Φs =>
   simp only [writer2] at h
   split at h
   ·cases h
   ·rename_i hd
    intro j o ho
    match j with
    | 0 => simp at ho; subst ho; exact hd
    | j + 1 => exact ih (by simpa using hl) h j o (by simpa using ho)
theorem JAll2_len {P : Program} {l : List Oper} {Φs : List (Tag × OP)} {a : Act} {w : World} : ∀ {r : List Oper} {Φr : List (Tag × OP)}, JAll2 P l Φs a w r Φr → r.length = Φr.length
 | [], [], _ => rfl
 | _ :: _, _ :: _, h => by simp [JAll2_len h.2]
 | [], _ :: _, h => by cases h
 | _ :: _, [], h => by cases h
theorem JAll2_get {P : Program} {l : List Oper} {Φs : List (Tag × OP)} {a : Act} {w : World} : ∀ {r : List Oper} {Φr : List (Tag × OP)}, JAll2 P l Φs a w r Φr → ∀ {i : Nat} {o : Oper} {Φ : Tag × OP}, r[i]? = some o → Φr[i]? = some Φ → JAt2 P l Φs a w o Φ
 | [], _, _, i, o, Φ, h, _ => by simp at h
 | q :: r, [], h, _, _, _, _, _ => by cases h
 | q :: r, Φ' :: Φr, hj, i, o, Φ, h, h' => by
  match i with
  | 0 => simp at h h'; subst h; subst h'; exact hj.1
  | i + 1 => exact JAll2_get hj.2 (by simpa using h) (by simpa using h')

/-- the value that an operation left, undef if it names no slot -/
def valD (a : Act) (q : Oper) : Value := match q.dst with | some d => a.eval (.tmp d) | none => undef

/-- where the region stands -/
structure BInv (l : List Oper) (Φs : List (Tag × OP)) (a : Act) (w : World) (listed : Array Bool) (a' : Act) (w' : World) (b : Option Nat) : Prop where
 below : Below w.heap.size w w'
 size : listed.size = l.length
 defers : a'.defers = a.defers
 tsize : a'.tmps.size = a.tmps.size
 old : ∀ t, (∀ (j : Nat) (o : Oper), l[j]? = some o → o.dst = some t → listed.getD j false = false) → a'.tmps[t]? = a.tmps[t]?
 new : ∀ (j : Nat) (o : Oper) (Φ : Tag × OP), l[j]? = some o → Φs[j]? = some Φ → listed.getD j false = true → Φ.2 b (valD a' o) w'
 box : ∀ k, b = some k → w.heap.size ≤ k ∧ k < w'.heap.size
 nob : ∀ (j : Nat) (Φ : Tag × OP), Φs[j]? = some Φ → Φ.1 = .alloc → listed.getD j false = false → b = none

theorem getD_set_self {listed : Array Bool} {i : Nat} (h : i < listed.size) : (listed.setIfInBounds i true).getD i false = true := by
 rw [Array.getD_eq_getD_getElem?, Array.getElem?_setIfInBounds_self_of_lt h]; rfl

theorem tag_get {Φs : List (Tag × OP)} {i : Nat} {Φ : Tag × OP} (h : Φs[i]? = some Φ) : (Φs.map Prod.fst)[i]? = some Φ.1 := by simp [h]

theorem boxB_spec {l : List Oper} {gs : List Tag} {n : Nat} (h : boxB l gs n = true) :
  looseB l n = true ∧ (∀ i j : Nat, gs[i]? = some Tag.alloc → gs[j]? = some Tag.alloc → i = j) ∧ (∀ i j : Nat, gs[i]? = some Tag.store → gs[j]? = some Tag.store → i = j) ∧
   ∀ (i : Nat) (q : Oper) (g : Tag), l[i]? = some q → gs[i]? = some g → q.dst = none → g = .store := by
 simp only [boxB, Bool.and_eq_true] at h
 obtain ⟨⟨⟨h1, h2⟩, h3⟩, h4⟩ := h
 refine ⟨h1, oneTag_spec h2, oneTag_spec h3, fun i q g hq hg hd => ?_⟩
 have hm : (q, g) ∈ l.zip gs := by
  apply List.mem_of_getElem? (i := i)
  rw [List.getElem?_zip_eq_some]
  exact ⟨hq, hg⟩
 have := List.all_eq_true.1 h4 _ hm
 simpa [hd] using this

theorem StepT.below {g : Tag} {w w' w'' : World} {o o' : Option Nat} (h : StepT g o w' o' w'') (hb : Below w.heap.size w w') (hk : ∀ k, o = some k → w.heap.size ≤ k ∧ k < w'.heap.size) : Below w.heap.size w w'' ∧ ∀ k, o' = some k → w.heap.size ≤ k ∧ k < w''.heap.size := by
 cases g with
 | plain =>
  obtain ⟨rfl, h⟩ := h
  exact ⟨bthen hb h, fun k he => ⟨(hk k he).1, Nat.lt_of_lt_of_le (hk k he).2 h.size⟩⟩
 | alloc =>
  obtain ⟨rfl, hs, h⟩ := h
  exact ⟨bthen hb h, fun k he => by simp at he; subst he; exact ⟨hb.size, hs⟩⟩
 | store =>
  obtain ⟨b, rfl, rfl, h⟩ := h
  have := hk b rfl
  exact ⟨hb.trans ⟨h.os, h.tape, h.output, h.size, fun k hlt => h.block k (Nat.lt_of_lt_of_le hlt hb.size) (by omega)⟩, fun k he => by simp at he; subst he; exact ⟨this.1, Nat.lt_of_lt_of_le this.2 h.size⟩⟩

theorem BInv.step {l : List Oper} {Φs : List (Tag × OP)} {a : Act} {w : World} {listed : Array Bool} {a' : Act} {w' w'' : World} {b b' : Option Nat} (hB : boxB l (Φs.map Prod.fst) a.tmps.size = true)
  (hst : SAll2 Φs) (h : BInv l Φs a w listed a' w' b) {i : Nat} {o : Oper} {Φ : Tag × OP} (hi : l[i]? = some o) (hΦ : Φs[i]? = some Φ) (hni : listed.getD i true = false) {v : Value} (hs : StepT Φ.1 b w' b' w'') (hv : Φ.2 b' v w'') :
  BInv l Φs a w (listed.setIfInBounds i true) (a'.put o.dst v) w'' b' := by
 have hlt : i < listed.size := by rw [h.size]; exact (List.getElem?_eq_some_iff.1 hi).1
 obtain ⟨hL, hone, hone', hdst⟩ := boxB_spec hB
 obtain ⟨_, _, hdn, hall⟩ := looseB_spec hL hi
 obtain ⟨hb1, hb2⟩ := hs.below h.below h.box
 refine ⟨hb1, by simpa using h.size, put_defers.trans h.defers, put_size.trans h.tsize, fun t ht => ?_, fun j q Ψ hj hΨ hl => ?_, hb2, fun j Ψ hΨ hg hl => ?_⟩
 ·have hne : o.dst ≠ some t := fun e => by
   have := ht i o hi e
   rw [getD_set_self hlt] at this
   cases this
  rw [put_other hne]
  refine h.old t fun j q hj hd => ?_
  have := ht j q hj hd
  by_cases e : i = j
  ·subst e; rw [getD_set_self hlt] at this; cases this
  ·rwa [getD_set_ne false e] at this
 ·by_cases e : i = j
  ·subst e
   rw [hi] at hj
   cases hj
   rw [hΦ] at hΨ
   cases hΨ
   cases hd : o.dst with
   | none =>
    have hg := hdst i o Φ.1 hi (tag_get hΦ) hd
    have hS := SAll2_mem hst Φ (List.mem_of_getElem? hΦ)
    rw [hg] at hS
    exact hS.2 _ v _ _ hv
   | some d =>
    simp only [valD, hd]
    rw [eval_put_self (by rw [h.tsize]; exact hdn d hd)]
    exact hv
  ·rw [getD_set_ne false e] at hl
   have hnew := h.new j q Ψ hj hΨ hl
   have hval : valD (a'.put o.dst v) q = valD a' q := by
    cases hd : q.dst with
    | none => simp [valD, hd]
    | some d => simp only [valD, hd]; exact eval_put_ne ((hall j q d hj hd).2 e)
   rw [hval]
   have hS := SAll2_mem hst Ψ (List.mem_of_getElem? hΨ)
   cases hg : Φ.1 with
   | plain =>
    rw [hg] at hs
    obtain ⟨rfl, hs⟩ := hs
    exact hS.o.1 _ _ _ _ hnew hs
   | alloc =>
    have hbn : b = none := h.nob i Φ hΦ hg (by
     rw [Array.getD_eq_getD_getElem?, Array.getElem?_eq_getElem hlt] at hni ⊢
     exact hni)
    rw [hg] at hs
    obtain ⟨rfl, _, hs⟩ := hs
    subst hbn
    exact hS.o.2 _ _ _ hnew hs
   | store =>
    rw [hg] at hs
    obtain ⟨k, rfl, rfl, hs⟩ := hs
    refine hS.s (fun hg' => e (hone' i j ?_ ?_)) _ _ _ _ hnew hs
    ·rw [← hg]; exact tag_get hΦ
    ·rw [← hg']; exact tag_get hΨ
 ·by_cases e : i = j
  ·subst e; rw [getD_set_self hlt] at hl; cases hl
  ·rw [getD_set_ne false e] at hl
   have hbn := h.nob j Ψ hΨ hg hl
   cases hg2 : Φ.1 with
   | plain => rw [hg2] at hs; obtain ⟨rfl, _⟩ := hs; exact hbn
   | alloc =>
    exfalso
    refine e (hone i j ?_ ?_)
    ·rw [← hg2]; exact tag_get hΦ
    ·rw [← hg]; exact tag_get hΨ
   | store => rw [hg2] at hs; obtain ⟨k, rfl, _⟩ := hs; cases hbn

theorem HAll2_of {w : World} {b : Option Nat} {f : Oper → Value} : ∀ {l : List Oper} {Φs : List (Tag × OP)}, l.length = Φs.length → (∀ (j : Nat) (o : Oper) (Φ : Tag × OP), l[j]? = some o → Φs[j]? = some Φ → Φ.2 b (f o) w) → HAll2 w b l Φs (l.map f)
 | [], [], _, _ => trivial
 | o :: l, Φ :: Φs, hl, h => ⟨h 0 o Φ rfl rfl, HAll2_of (by simpa using hl) fun j q Ψ hj hΨ => h (j + 1) q Ψ (by simpa using hj) (by simpa using hΨ)⟩
 | [], _ :: _, hl, _ => by simp at hl
 | _ :: _, [], hl, _ => by simp at hl

theorem wpAny_box {P : Program} {l : List Oper} {Φs : List (Tag × OP)} {a : Act} {w : World} {Q : Exit → Act → World → Prop} (hB : boxB l (Φs.map Prod.fst) a.tmps.size = true)
  (hst : SAll2 Φs) (hJ : JAll2 P l Φs a w l Φs)
  (hQ : ∀ vs w' b, Below w.heap.size w w' → (∀ k, b = some k → w.heap.size ≤ k ∧ k < w'.heap.size) → HAll2 w' b l Φs vs → Q .normal (putAll a l vs) w') :
  ∀ (fuel : Nat) (listed : Array Bool) (a' : Act) (w' : World) (b : Option Nat), (∃ s : List Nat, s.Nodup ∧ (∀ i ∈ s, i < l.length ∧ listed.getD i true = false) ∧ (∀ i, i < l.length → listed.getD i true = false → i ∈ s) ∧ s.length ≤ fuel) → BInv l Φs a w listed a' w' b → wpAny P .any l.toArray Q fuel listed a' w' := by
 have hlen := JAll2_len hJ
 have hBL := (boxB_spec hB).1
 have fin : ∀ (listed : Array Bool) (a' : Act) (w' : World) (b : Option Nat), BInv l Φs a w listed a' w' b → Region.ready .any l.toArray listed = [] → Q .normal a' w' := by
  intro listed a' w' b hI hr
  have hall := ready_nil hBL hI.size hr
  have hH : HAll2 w' b l Φs (l.map (valD a')) := HAll2_of hlen fun j o Φ hj hΦ =>
   hI.new j o Φ hj hΦ (hall j (List.getElem?_eq_some_iff.1 hj).1)
  have ha : a' = putAll a l (l.map (valD a')) := by
   obtain ⟨p1, p2, p3⟩ := putAll_frame (l := l) (vs := l.map (valD a')) (a := a)
   have e1 : a'.tmps = (putAll a l (l.map (valD a'))).tmps := by
    apply Array.ext_getElem?
    intro t
    by_cases ht : ∃ (j : Nat) (o : Oper), l[j]? = some o ∧ o.dst = some t
    ·obtain ⟨j, o, hj, hd⟩ := ht
     obtain ⟨_, _, hdn, _⟩ := looseB_spec hBL hj
     have hlt := hdn t hd
     rw [putAll_get (valD a') hj hd hlt (fun i q hne hq => ((looseB_spec hBL hq).2.2.2 j o t hj hd).2 hne)]
     have hlt' : t < a'.tmps.size := by rw [hI.tsize]; exact hlt
     simp [valD, hd, Act.eval, Array.getElem?_eq_getElem hlt']
    ·rw [p3 t (fun o ho hd => ?_)]
     ·exact hI.old t fun j o hj hd => absurd ⟨j, o, hj, hd⟩ ht
     ·obtain ⟨j, hj⟩ := List.getElem?_of_mem ho
      exact ht ⟨j, o, hj, hd⟩
   have e2 : a'.defers = (putAll a l (l.map (valD a'))).defers := hI.defers.trans p2.symm
   cases a'
   generalize putAll a l (l.map (valD _)) = q at e1 e2
   cases q
   simp only at e1 e2
   rw [e1, e2]
  rw [ha]
  exact hQ _ _ _ hI.below hI.box hH
 intro fuel
 induction fuel with
 | zero =>
  intro listed a' w' b ⟨s, _, _, hs2, hs3⟩ hI
  have hr : Region.ready .any l.toArray listed = [] := by
   rw [List.eq_nil_iff_forall_not_mem]
   intro i hi
   obtain ⟨h1, o, ho, _⟩ := mem_ready.1 hi
   have hlt : i < l.length := by simpa using (Array.getElem?_eq_some_iff.1 ho).1
   have := hs2 i hlt h1
   obtain rfl : s = [] := List.eq_nil_of_length_eq_zero (by omega)
   cases this
  exact ⟨hr, fin _ _ _ _ hI hr⟩
 | succ fuel ih =>
  intro listed a' w' b ⟨s, hs0, hs1, hs2, hs3⟩ hI
  refine ⟨fin _ _ _ _ hI, fun i hi => ?_⟩
  obtain ⟨h1, o, ho, hdeps⟩ := mem_ready.1 hi
  have hlt : i < l.length := by simpa using (Array.getElem?_eq_some_iff.1 ho).1
  have ho' : l[i]? = some o := by simpa using ho
  obtain ⟨Φ, hΦ⟩ : ∃ Φ, Φs[i]? = some Φ := ⟨_, List.getElem?_eq_getElem (by omega)⟩
  obtain ⟨hg, _, _, hall⟩ := looseB_spec hBL ho'
  have hJi : JAt2 P l Φs a w o Φ := JAll2_get hJ ho' hΦ
  have hlsz : i < listed.size := by rw [hI.size]; exact hlt
  have hj := hJi a' w' b hI.below hI.box (fun hga => hI.nob i Φ hΦ hga (by
    rw [Array.getD_eq_getD_getElem?, Array.getElem?_eq_getElem hlsz] at h1 ⊢
    exact h1)) (fun t ht0 => by
   have ht : Operand.tmp t ∈ o.op.operands.toList := by
    unfold readsB at ht0
    obtain ⟨x, hx, he⟩ := List.any_eq_true.1 ht0
    cases x <;> simp at he
    subst he
    exact hx
   unfold slotP2
   cases hwr : writer2 l Φs t with
   | some Ψ =>
    obtain ⟨j, q, g, hj, hd, hΨ⟩ := writer2_some hwr
    obtain ⟨e, he, hon, hbind⟩ := (hall j q t hj hd).1 ht
    have := hI.new j q (g, Ψ) hj hΨ (by rw [← hon]; exact hdeps e he hbind)
    simpa [valD, hd] using this
   | none =>
    have hno := writer2_none hlen hwr
    have := hI.old t fun j q hj hd => absurd hd (hno j q hj)
    simp [Act.eval, this])
  have hnext : ∀ v w'' b', StepT Φ.1 b w' b' w'' → Φ.2 b' v w'' → wpAny P .any l.toArray Q fuel (listed.setIfInBounds i true) (a'.put o.dst v) w'' := by
   intro v w'' b' hs hv
   refine ih _ _ _ _ ⟨s.erase i, hs0.erase i, fun j hj => ?_, fun j hj hl => ?_, ?_⟩ (hI.step hB hst ho' hΦ h1 hs hv)
   ·have hj' := List.mem_of_mem_erase hj
    have hne : j ≠ i := fun e => by subst e; exact (hs0.not_mem_erase) hj
    exact ⟨(hs1 j hj').1, by rw [getD_set_ne true (Ne.symm hne)]; exact (hs1 j hj').2⟩
   ·have hne : i ≠ j := fun e => by
     subst e
     rw [Array.getD_eq_getD_getElem?, Array.getElem?_setIfInBounds_self_of_lt hlsz] at hl
     cases hl
    rw [getD_set_ne true hne] at hl
    exact (List.mem_erase_of_ne (Ne.symm hne)).2 (hs2 j hj hl)
   ·rw [List.length_erase_of_mem (hs2 i hlt h1)]; omega
  unfold wpOp
  rw [ho]
  simp only [Region.wanted, hg, if_true]
  left
  unfold Oper.wp
  generalize (execOp a'.eval o).run P w' = r at hj
  cases r with
  | ok n w1 =>
   cases n with
   | value v => exact hnext v w1 hj.choose hj.choose_spec.1 hj.choose_spec.2
   | skip => exact hnext undef w1 hj.choose hj.choose_spec.1 hj.choose_spec.2
   | enter f args =>
    refine hj.2.2.mono fun e w2 ⟨v, he, hb2, hv⟩ => ?_
    subst he
    refine hnext v w2 b ?_ hv
    rw [hj.1]
    exact ⟨rfl, bthen hj.2.1 hb2⟩
   | _ => exact hj.elim
  | halt x w1 => exact hj.elim

theorem wp_region_box {P : Program} {id : Nat} {l : List Oper} {a : Act} {w : World} {Q : Exit → Act → World → Prop} (Φs : List (Tag × OP)) (hm : P.follows .mixedOrders = true) (hB : boxB l (Φs.map Prod.fst) a.tmps.size = true)
  (hst : SAll2 Φs) (hJ : JAll2 P l Φs a w l Φs)
  (hQ : ∀ vs w' b, Below w.heap.size w w' → (∀ k, b = some k → w.heap.size ≤ k ∧ k < w'.heap.size) → HAll2 w' b l Φs vs → Q .normal (putAll a l vs) w') : (Code.region id l.toArray true).wp P Q a w := by
 refine wp_region_any hm (wpAny_box hB hst hJ hQ _ _ _ _ none ⟨List.range l.length, List.nodup_range, fun i hi => ⟨by simpa using hi, ?_⟩, fun i hi _ => by simpa using hi, by simp⟩ ⟨⟨rfl, rfl, rfl, Nat.le_refl _, fun _ _ => rfl⟩, by simp, rfl, rfl, fun _ _ => rfl, fun j o Φ hj _ hl => ?_, fun k hk => (by simp at hk), fun _ _ _ _ _ => rfl⟩)
 ·simp at hi
  simp [hi]
 ·have hjl := (List.getElem?_eq_some_iff.1 hj).1
  simp [hjl] at hl

/-! the usual predicates -/
def exO (c : Value) : OP := fun _ v _ => v = c
def rdSO {α : Type} (E : Ty α) (x : α) : OP := fun o v W => ∃ fp, E.rd W [v] x fp ∧ ∀ k ∈ fp, o ≠ some k
/-- new memory that reads so -/
def frAO {α : Type} (E : Ty α) (base : Nat) (x : α) : OP := fun o v W => ∃ (cs : List Value) (fp : List Nat), v = .agg cs.toArray ∧ E.rd W cs x fp ∧ fp.Nodup ∧ (∀ k ∈ fp, base ≤ k) ∧ Unf W fp ∧ ∀ k ∈ fp, o ≠ some k
def boxO (n : Nat) : OP := fun o v W => ∃ b, o = some b ∧ v = .pointer (some ⟨b, 0, none⟩) ∧ b < W.heap.size ∧ ∀ j, j < n → (∃ u, W.cell? ⟨b, j, none⟩ = some u) ∧ W.frozen? ⟨b, j, none⟩ = false
/-- the box holds it -/
def heldO {α : Type} (E : Ty α) (base : Nat) (x : α) : OP := fun o _ W => ∃ (b : Nat) (cs : List Value) (fp : List Nat), o = some b ∧ E.rd W cs x fp ∧ fp.Nodup ∧ (∀ k ∈ fp, base ≤ k) ∧ Unf W fp ∧ (∀ k ∈ fp, some b ≠ some k) ∧ ∀ j (hj : j < cs.length), W.cell? ⟨b, j, none⟩ = some cs[j]
theorem some_ne {a : Nat} {fp : List Nat} (h : ∀ k ∈ fp, k < a) : ∀ k ∈ fp, (some a : Option Nat) ≠ some k := fun k hk e => by have := h k hk; simp at e; omega
theorem Bx.same {b : Nat} {w w' : World} {fp : List Nat} (h : Bx b w w') (hl : ∀ k ∈ fp, k < w.heap.size) (hn : ∀ k ∈ fp, (some b : Option Nat) ≠ some k) : Same fp w w' := fun k hk => h.block k (hl k hk) fun e => hn k hk (by rw [e])
theorem st_exO {c : Value} : StG .plain (exO c) := ⟨⟨fun _ _ _ _ h _ => h, fun _ _ _ h _ => h⟩, fun _ _ _ _ h _ => h⟩
theorem st_rdSO {α : Type} {E : Ty α} {x : α} : StG .plain (rdSO E x) :=
 ⟨⟨fun _ _ _ _ ⟨fp, h2, h3⟩ hb => ⟨fp, E.same h2 (Same.below hb (E.lt h2)), h3⟩, fun _ _ _ ⟨fp, h2, _⟩ hb => ⟨fp, E.same h2 (Same.below hb (E.lt h2)), some_ne (E.lt h2)⟩⟩,
  fun _ _ _ _ ⟨fp, h2, h3⟩ hb => ⟨fp, E.same h2 (hb.same (E.lt h2) h3), h3⟩⟩
theorem st_frAO {α : Type} {E : Ty α} {base : Nat} {x : α} : StG .plain (frAO E base x) :=
 ⟨⟨fun _ _ _ _ ⟨cs, fp, h1, h2, h4, h5, h6, h3⟩ hb => ⟨cs, fp, h1, E.same h2 (Same.below hb (E.lt h2)), h4, h5, h6.same (Same.below hb (E.lt h2)), h3⟩,
  fun _ _ _ ⟨cs, fp, h1, h2, h4, h5, h6, _⟩ hb => ⟨cs, fp, h1, E.same h2 (Same.below hb (E.lt h2)), h4, h5, h6.same (Same.below hb (E.lt h2)), some_ne (E.lt h2)⟩⟩,
  fun _ _ _ _ ⟨cs, fp, h1, h2, h4, h5, h6, h3⟩ hb => ⟨cs, fp, h1, E.same h2 (hb.same (E.lt h2) h3), h4, h5, h6.same (hb.same (E.lt h2) h3), h3⟩⟩
theorem st_boxO {n : Nat} : StG .alloc (boxO n) :=
 ⟨⟨fun _ _ _ _ ⟨b, h1, h2, h3, h4⟩ hb => ⟨b, h1, h2, Nat.lt_of_lt_of_le h3 hb.size, fun j hj => ⟨let ⟨u, hu⟩ := (h4 j hj).1; ⟨u, (hb.cell (p := ⟨b, j, none⟩) h3).trans hu⟩, (hb.frozen (p := ⟨b, j, none⟩) h3).trans (h4 j hj).2⟩⟩, fun _ _ _ ⟨b, h1, _⟩ _ => by cases h1⟩,
  fun b' _ _ _ ⟨b, h1, h2, h3, h4⟩ hb => by
   obtain rfl : b' = b := by simpa using h1
   exact ⟨_, rfl, h2, Nat.lt_of_lt_of_le h3 hb.size, fun j hj => ⟨hb.cells j (h4 j hj).1, (hb.frozen j).trans (h4 j hj).2⟩⟩⟩
theorem st_heldO {α : Type} {E : Ty α} {base : Nat} {x : α} : StG .store (heldO E base x) :=
 ⟨⟨fun _ _ _ _ ⟨b, cs, fp, h1, h2, h4, h5, h6, h3, h7⟩ hb => ⟨b, cs, fp, h1, E.same h2 (Same.below hb (E.lt h2)), h4, h5, h6.same (Same.below hb (E.lt h2)), h3, fun j hj => (hb.cell (p := ⟨b, j, none⟩) (cell_lt (h7 j hj))).trans (h7 j hj)⟩, fun _ _ _ ⟨b, _, _, h1, _⟩ _ => by cases h1⟩, fun _ _ _ _ h => h⟩
theorem HAll2_cons {w : World} {b : Option Nat} {o : Oper} {l : List Oper} {Φ : Tag × OP} {Φs : List (Tag × OP)} {vs : List Value} (h : HAll2 w b (o :: l) (Φ :: Φs) vs) : ∃ v r, vs = v :: r ∧ Φ.2 b v w ∧ HAll2 w b l Φs r := by
 cases vs with
 | nil => cases h
 | cons v r => exact ⟨v, r, rfl, h.1, h.2⟩
theorem HAll2_nil {w : World} {b : Option Nat} {vs : List Value} (h : HAll2 w b [] [] vs) : vs = [] := by
 cases vs with
 | nil => rfl
 | cons v r => cases h
theorem slot_w2 {l : List Oper} {Φs : List (Tag × OP)} {a a' : Act} {w' : World} {o : Oper} {b : Option Nat} (hd : ∀ t, readsB o t = true → slotP2 l Φs a t b (a'.eval (.tmp t)) w') (t : Tmp) (Φ : OP) (hr : readsB o t = true) (hw : writer2 l Φs t = some Φ) : Φ b (a'.eval (.tmp t)) w' := by
 have h := hd t hr
 unfold slotP2 at h
 rw [hw] at h
 exact h
theorem slot_o2 {l : List Oper} {Φs : List (Tag × OP)} {a a' : Act} {w' : World} {o : Oper} {b : Option Nat} (hd : ∀ t, readsB o t = true → slotP2 l Φs a t b (a'.eval (.tmp t)) w') (t : Tmp) (hr : readsB o t = true) (hw : writer2 l Φs t = none) : a'.eval (.tmp t) = a.eval (.tmp t) := by
 have h := hd t hr
 unfold slotP2 at h
 rw [hw] at h
 exact h
theorem rdSO_mk {α : Type} {E : Ty α} {x : α} {W : World} {u : Value} {o : Option Nat} {B L : Nat} (hf : E.Fr B W [u] x) (hbo : ∀ k, o = some k → L ≤ k ∧ k < B) : rdSO E x o u W :=
 let ⟨fp, h1, _, h3, _⟩ := hf; ⟨fp, h1, fun k hk e => by have := hbo k e; have := h3 k hk; omega⟩
theorem rdSO.rd {α : Type} {E : Ty α} {x : α} {W : World} {u : Value} {o : Option Nat} (h : rdSO E x o u W) : E.Rd W [u] x := let ⟨fp, h, _⟩ := h; ⟨fp, h⟩
theorem set3_bx {b : Nat} {w : World} {x y z : Value} : Bx b w (((w.setCell ⟨b, 0, none⟩ x).setCell ⟨b, 1, none⟩ y).setCell ⟨b, 2, none⟩ z) := ((Bx.setCell _ _ _ _).trans (Bx.setCell _ _ _ _)).trans (Bx.setCell _ _ _ _)
theorem set2_bx {b : Nat} {w : World} {x y : Value} : Bx b w ((w.setCell ⟨b, 0, none⟩ x).setCell ⟨b, 1, none⟩ y) := (Bx.setCell _ _ _ _).trans (Bx.setCell _ _ _ _)
theorem held3 {α : Type} {E : Ty α} {base : Nat} {x : α} {b : Nat} {w : World} {v0 v1 v2 y0 y1 y2 : Value} (h0 : w.cell? ⟨b, 0, none⟩ = some y0) (h1 : w.cell? ⟨b, 1, none⟩ = some y1) (h2 : w.cell? ⟨b, 2, none⟩ = some y2) {fp : List Nat} (hr : E.rd w [v0, v1, v2] x fp)
  (hn : fp.Nodup) (hb : ∀ k ∈ fp, base ≤ k) (hu : Unf w fp) (ho : ∀ k ∈ fp, (some b : Option Nat) ≠ some k) (v : Value) :
  ∃ o', StepT .store (some b) w o' (((w.setCell ⟨b, 0, none⟩ v0).setCell ⟨b, 1, none⟩ v1).setCell ⟨b, 2, none⟩ v2) ∧ heldO E base x o' v (((w.setCell ⟨b, 0, none⟩ v0).setCell ⟨b, 1, none⟩ v1).setCell ⟨b, 2, none⟩ v2) := by
 have hs := set3_bx (b := b) (w := w) (x := v0) (y := v1) (z := v2)
 have e1 : (w.setCell ⟨b, 0, none⟩ v0).cell? ⟨b, 1, none⟩ = some y1 := (World.cell?_setCell_other _ _ _ _ (by simp)).trans h1
 have e2 : ((w.setCell ⟨b, 0, none⟩ v0).setCell ⟨b, 1, none⟩ v1).cell? ⟨b, 2, none⟩ = some y2 := (World.cell?_setCell_other _ _ _ _ (by simp)).trans ((World.cell?_setCell_other _ _ _ _ (by simp)).trans h2)
 refine ⟨some b, ⟨b, rfl, rfl, hs⟩, b, [v0, v1, v2], fp, rfl, E.same hr (hs.same (E.lt hr) ho), hn, hb, hu.same (hs.same (E.lt hr) ho), ho, fun j hj => ?_⟩
 rcases (show j = 0 ∨ j = 1 ∨ j = 2 by simp at hj; omega) with rfl | rfl | rfl
 ·exact (World.cell?_setCell_other _ _ _ _ (by simp)).trans ((World.cell?_setCell_other _ _ _ _ (by simp)).trans (World.cell?_setCell_same _ _ _ h0))
 ·exact (World.cell?_setCell_other _ _ _ _ (by simp)).trans (World.cell?_setCell_same _ _ _ e1)
 ·exact World.cell?_setCell_same _ _ _ e2
theorem held2 {α : Type} {E : Ty α} {base : Nat} {x : α} {b : Nat} {w : World} {v0 v1 y0 y1 : Value} (h0 : w.cell? ⟨b, 0, none⟩ = some y0) (h1 : w.cell? ⟨b, 1, none⟩ = some y1) {fp : List Nat} (hr : E.rd w [v0, v1] x fp)
  (hn : fp.Nodup) (hb : ∀ k ∈ fp, base ≤ k) (hu : Unf w fp) (ho : ∀ k ∈ fp, (some b : Option Nat) ≠ some k) (v : Value) :
  ∃ o', StepT .store (some b) w o' ((w.setCell ⟨b, 0, none⟩ v0).setCell ⟨b, 1, none⟩ v1) ∧ heldO E base x o' v ((w.setCell ⟨b, 0, none⟩ v0).setCell ⟨b, 1, none⟩ v1) := by
 have hs := set2_bx (b := b) (w := w) (x := v0) (y := v1)
 have e1 : (w.setCell ⟨b, 0, none⟩ v0).cell? ⟨b, 1, none⟩ = some y1 := (World.cell?_setCell_other _ _ _ _ (by simp)).trans h1
 refine ⟨some b, ⟨b, rfl, rfl, hs⟩, b, [v0, v1], fp, rfl, E.same hr (hs.same (E.lt hr) ho), hn, hb, hu.same (hs.same (E.lt hr) ho), ho, fun j hj => ?_⟩
 rcases (show j = 0 ∨ j = 1 by simp at hj; omega) with rfl | rfl
 ·exact (World.cell?_setCell_other _ _ _ _ (by simp)).trans (World.cell?_setCell_same _ _ _ h0)
 ·exact World.cell?_setCell_same _ _ _ e1
theorem box3 {w : World} {x y z : Value} {T : TypeId} : ∀ j, j < 3 → (∃ u, (w.alloc (.cells #[x, y, z] T)).cell? ⟨w.heap.size, j, none⟩ = some u) ∧ (w.alloc (.cells #[x, y, z] T)).frozen? ⟨w.heap.size, j, none⟩ = false := fun j hj => by
 rcases (show j = 0 ∨ j = 1 ∨ j = 2 by omega) with rfl | rfl | rfl <;> exact ⟨by simp, by simp⟩
theorem box2n {w : World} {x y : Value} {T : TypeId} : ∀ j, j < 2 → (∃ u, (w.alloc (.cells #[x, y] T)).cell? ⟨w.heap.size, j, none⟩ = some u) ∧ (w.alloc (.cells #[x, y] T)).frozen? ⟨w.heap.size, j, none⟩ = false := fun j hj => by
 rcases (show j = 0 ∨ j = 1 by omega) with rfl | rfl <;> exact ⟨by simp, by simp⟩
end Go.Proofs.YtnhdohednekhjaaGreatDoor
namespace Go.Proofs.YtnhdohednekhjaaGreatDoor
open Go.RowKit Go.Sort
theorem in2 {s a b : Int} (ha : 0 ≤ a ∧ a ≤ s - 1) (hb : 0 ≤ b ∧ b ≤ s - 1) : inS s [a, b] := fun x hx => by
 simp at hx
 rcases hx with rfl | rfl
 ·exact ha
 ·exact hb
theorem in3 {s a b c : Int} (ha : 0 ≤ a ∧ a ≤ s - 1) (hb : 0 ≤ b ∧ b ≤ s - 1) (hc : 0 ≤ c ∧ c ≤ s - 1) : inS s [a, b, c] := fun x hx => by
 simp at hx
 rcases hx with rfl | rfl | rfl
 ·exact ha
 ·exact hb
 ·exact hc
theorem i64_in {s a : Int} (hs : 1 ≤ s ∧ s ≤ 4) (h : 0 ≤ a ∧ a ≤ s - 1) : I64 a := I64.small (by omega) (by omega)
theorem fr_ints3 {base : Nat} {w : World} {a b c : Int} {e : TypeId} {g : Nat} (ha : I64 a) (hb : I64 b) (hc : I64 c) (hg : w.heap.size = g) (hbs : base ≤ g) : intsT.Fr base (w.alloc (.cells #[.int .i64 a, .int .i64 b, .int .i64 c] e)) [.slice (some ⟨g, 0, none⟩) 3 3] [a, b, c] := by
 subst hg
 refine IR.fr (e := e) ⟨rfl, ?_, hbs, World.ownsRow_lit w #[.int .i64 a, .int .i64 b, .int .i64 c] 3 hbs (by decide) (by rfl)⟩ (by decide)
 intro x hx
 simp at hx
 rcases hx with rfl | rfl | rfl
 ·exact ha
 ·exact hb
 ·exact hc
set_option maxHeartbeats 3200000 in
set_option maxRecDepth 100000 in
theorem isKind3_any (w : World) {u : Value} {a b c : Int} (hu : intsT.Rd w [u] [a, b, c]) {f : Int × List Int} {s : Int} {bs bf : Nat} (hc : w.cell? ⟨bs, 0, none⟩ = some (.int .i64 s)) (hP : opT.Pt w (.pointer (some ⟨bf, 0, none⟩)) f) (hf : opOk s f) (h2 : f.1 = 2) (hin : inS s [a, b, c]) :
  Calls Tryz.prog 201 #[u, .pointer (some ⟨bf, 0, none⟩), .pointer (some ⟨bs, 0, none⟩)] w fun e w' => e = .returned (.bool (opV s f.2 [opV s f.2 [a, b], c] == opV s f.2 [a, opV s f.2 [b, c]])) ∧ Below w.heap.size w w' := by
 obtain ⟨fb, fo, fa, fc, hpe, hfb, hIf, f0, f1, hfx⟩ := pt_pair hP
 simp only [Value.pointer.injEq, Option.some.injEq, Addr.mk.injEq, and_true] at hpe
 obtain ⟨rfl, rfl⟩ := hpe
 obtain ⟨ad, lc, e1, -, -, hcell⟩ := ints_ex hu
 obtain rfl : u = _ := by simpa using e1
 obtain ⟨db, dO, rfl, hdb, hce⟩ := hcell (by simp)
 have d0 : w.cell? ⟨db, dO, none⟩ = some (.int .i64 a) := (hce 0 (by simp)).2
 have d1 : w.cell? ⟨db, dO + 1, none⟩ = some (.int .i64 b) := (hce 1 (by simp)).2
 have d2 : w.cell? ⟨db, dO + 2, none⟩ = some (.int .i64 c) := (hce 2 (by simp)).2
 replace f1 : w.cell? ⟨bf, 1, none⟩ = some (.slice fa f.2.length fc) := f1
 have hs := (op_dims hf).1
 have ra : 0 ≤ a ∧ a ≤ s - 1 := hin a (by simp)
 have rb : 0 ≤ b ∧ b ≤ s - 1 := hin b (by simp)
 have rc : 0 ≤ c ∧ c ≤ s - 1 := hin c (by simp)
 have hl2 : ∀ x y : Int, ((([x, y] : List Int).length : Nat) : Int) = f.1 := fun _ _ => by rw [h2]; rfl
 have r1 := opV_in hf (hl2 a b) (in2 ra rb)
 have r2 := opV_in hf (hl2 _ c) (in2 r1 rc)
 have r3 := opV_in hf (hl2 b c) (in2 rb rc)
 have r4 := opV_in hf (hl2 a _) (in2 ra r3)
 obtain ⟨V1, hV1⟩ : ∃ V, opV s f.2 [a, b] = V := ⟨_, rfl⟩
 obtain ⟨V3, hV3⟩ : ∃ V, opV s f.2 [b, c] = V := ⟨_, rfl⟩
 rw [hV1] at r1 r2 ⊢
 rw [hV3] at r3 r4 ⊢
 obtain ⟨V2, hV2⟩ : ∃ V, opV s f.2 [V1, c] = V := ⟨_, rfl⟩
 obtain ⟨V4, hV4⟩ : ∃ V, opV s f.2 [a, V3] = V := ⟨_, rfl⟩
 rw [hV2] at r2 ⊢
 rw [hV4] at r4 ⊢
 have hbs := cell_lt hc
 have HF := Lib.hid hf
 have HFR : Hid (opT.Rd w [.int .i64 f.1, .slice fa f.2.length fc] f) := pair_mk hIf hfx
 have H2L : Hid (((2 : Nat) : Int) = f.1) := h2.symm
 have Ha := Lib.hid (i64_in hs ra)
 have Hb := Lib.hid (i64_in hs rb)
 have Hc := Lib.hid (i64_in hs rc)
 have HV1 := Lib.hid (i64_in hs r1)
 have HV3 := Lib.hid (i64_in hs r3)
 have HRa := Lib.hid ra
 have HRb := Lib.hid rb
 have HRc := Lib.hid rc
 have HRV1 := Lib.hid r1
 have HRV3 := Lib.hid r3
 have EV1 := Lib.hid hV1
 have EV2 := Lib.hid hV2
 have EV3 := Lib.hid hV3
 have EV4 := Lib.hid hV4
 clear hu hin hf hfx hP e1 hcell hce h2 hl2 ra rb rc r1 r2 r3 r4 hV1 hV2 hV3 hV4
 go_enter Tryz.func201, Tryz.ntmps201
 go_wp2_with fail
 refine wp_region_loose [exV (.agg #[.int .i64 f.1, .slice fa f.2.length fc]), exV (.int .i64 s), exV (.agg #[.int .i64 f.1, .slice fa f.2.length fc]), exV (.int .i64 s), exV (.slice (some ⟨db, dO, none⟩) 3 lc), exV (.pointer (some ⟨db, dO, none⟩)), exV (.int .i64 a), exV (.slice (some ⟨db, dO, none⟩) 3 lc), exV (.pointer (some ⟨db, dO + 1, none⟩)), exV (.int .i64 b), rdS intsT [a, b], exV (.int .i64 V1), exV (.slice (some ⟨db, dO, none⟩) 3 lc), exV (.pointer (some ⟨db, dO + 2, none⟩)), exV (.int .i64 c), rdS intsT [V1, c], exV (.int .i64 V2), exV (.agg #[.int .i64 f.1, .slice fa f.2.length fc]), exV (.int .i64 s), exV (.slice (some ⟨db, dO, none⟩) 3 lc), exV (.pointer (some ⟨db, dO, none⟩)), exV (.int .i64 a), exV (.agg #[.int .i64 f.1, .slice fa f.2.length fc]), exV (.int .i64 s), exV (.slice (some ⟨db, dO, none⟩) 3 lc), exV (.pointer (some ⟨db, dO + 1, none⟩)), exV (.int .i64 b), exV (.slice (some ⟨db, dO, none⟩) 3 lc), exV (.pointer (some ⟨db, dO + 2, none⟩)), exV (.int .i64 c), rdS intsT [b, c], exV (.int .i64 V3), rdS intsT [a, V3], exV (.int .i64 V4), exV (.bool (V2 == V4)), exV (.bool (V2 == V4))] (by kernel_rfl) (by kernel_rfl) ⟨st_exV, st_exV, st_exV, st_exV, st_exV, st_exV, st_exV, st_exV, st_exV, st_exV, st_rdS, st_exV, st_exV, st_exV, st_exV, st_rdS, st_exV, st_exV, st_exV, st_exV, st_exV, st_exV, st_exV, st_exV, st_exV, st_exV, st_exV, st_exV, st_exV, st_exV, st_rdS, st_exV, st_rdS, st_exV, st_exV, st_exV, trivial⟩ ⟨?j1_0, ?j1_1, ?j1_2, ?j1_3, ?j1_4, ?j1_5, ?j1_6, ?j1_7, ?j1_8, ?j1_9, ?j1_10, ?j1_11, ?j1_12, ?j1_13, ?j1_14, ?j1_15, ?j1_16, ?j1_17, ?j1_18, ?j1_19, ?j1_20, ?j1_21, ?j1_22, ?j1_23, ?j1_24, ?j1_25, ?j1_26, ?j1_27, ?j1_28, ?j1_29, ?j1_30, ?j1_31, ?j1_32, ?j1_33, ?j1_34, ?j1_35, trivial⟩ ?hQ1
 case j1_0 =>
  intro a' w' hb hd
  have e1 : a'.tmps[1]?.getD undef = .pointer (some ⟨bf, 0, none⟩) := ev (slot_o hd 1 rfl rfl)
  have q : ∀ b o, b < w.heap.size → w'.cell? ⟨b, o, none⟩ = w.cell? ⟨b, o, none⟩ := (bcell hb).1
  go_simp
  exact ⟨Below.refl _ _, rfl⟩
 case j1_1 =>
  intro a' w' hb hd
  have e2 : a'.tmps[2]?.getD undef = .pointer (some ⟨bs, 0, none⟩) := ev (slot_o hd 2 rfl rfl)
  have q : ∀ b o, b < w.heap.size → w'.cell? ⟨b, o, none⟩ = w.cell? ⟨b, o, none⟩ := (bcell hb).1
  go_simp
  exact ⟨Below.refl _ _, rfl⟩
 case j1_2 =>
  intro a' w' hb hd
  have e1 : a'.tmps[1]?.getD undef = .pointer (some ⟨bf, 0, none⟩) := ev (slot_o hd 1 rfl rfl)
  have q : ∀ b o, b < w.heap.size → w'.cell? ⟨b, o, none⟩ = w.cell? ⟨b, o, none⟩ := (bcell hb).1
  go_simp
  exact ⟨Below.refl _ _, rfl⟩
 case j1_3 =>
  intro a' w' hb hd
  have e2 : a'.tmps[2]?.getD undef = .pointer (some ⟨bs, 0, none⟩) := ev (slot_o hd 2 rfl rfl)
  have q : ∀ b o, b < w.heap.size → w'.cell? ⟨b, o, none⟩ = w.cell? ⟨b, o, none⟩ := (bcell hb).1
  go_simp
  exact ⟨Below.refl _ _, rfl⟩
 case j1_4 =>
  intro a' w' hb hd
  have e0 : a'.tmps[0]?.getD undef = .slice (some ⟨db, dO, none⟩) 3 lc := ev (slot_o hd 0 rfl rfl)
  go_simp
  exact ⟨Below.refl _ _, rfl⟩
 case j1_5 =>
  intro a' w' hb hd
  have e9 : a'.tmps[9]?.getD undef = .slice (some ⟨db, dO, none⟩) 3 lc := ev (slot_w hd 9 (exV (.slice (some ⟨db, dO, none⟩) 3 lc)) rfl rfl)
  go_simp
  exact ⟨Below.refl _ _, rfl⟩
 case j1_6 =>
  intro a' w' hb hd
  have e10 : a'.tmps[10]?.getD undef = .pointer (some ⟨db, dO, none⟩) := ev (slot_w hd 10 (exV (.pointer (some ⟨db, dO, none⟩))) rfl rfl)
  have q : ∀ b o, b < w.heap.size → w'.cell? ⟨b, o, none⟩ = w.cell? ⟨b, o, none⟩ := (bcell hb).1
  go_simp
  exact ⟨Below.refl _ _, rfl⟩
 case j1_7 =>
  intro a' w' hb hd
  have e0 : a'.tmps[0]?.getD undef = .slice (some ⟨db, dO, none⟩) 3 lc := ev (slot_o hd 0 rfl rfl)
  go_simp
  exact ⟨Below.refl _ _, rfl⟩
 case j1_8 =>
  intro a' w' hb hd
  have e12 : a'.tmps[12]?.getD undef = .slice (some ⟨db, dO, none⟩) 3 lc := ev (slot_w hd 12 (exV (.slice (some ⟨db, dO, none⟩) 3 lc)) rfl rfl)
  go_simp
  exact ⟨Below.refl _ _, rfl⟩
 case j1_9 =>
  intro a' w' hb hd
  have e13 : a'.tmps[13]?.getD undef = .pointer (some ⟨db, dO + 1, none⟩) := ev (slot_w hd 13 (exV (.pointer (some ⟨db, dO + 1, none⟩))) rfl rfl)
  have q : ∀ b o, b < w.heap.size → w'.cell? ⟨b, o, none⟩ = w.cell? ⟨b, o, none⟩ := (bcell hb).1
  go_simp
  exact ⟨Below.refl _ _, rfl⟩
 case j1_10 =>
  intro a' w' hb hd
  have e11 : a'.tmps[11]?.getD undef = .int .i64 a := ev (slot_w hd 11 (exV (.int .i64 a)) rfl rfl)
  have e14 : a'.tmps[14]?.getD undef = .int .i64 b := ev (slot_w hd 14 (exV (.int .i64 b)) rfl rfl)
  go_simp
  exact ⟨bA, (fr_ints2 (base := 0) Ha.out Hb.out rfl (Nat.zero_le _)).rd⟩
 case j1_11 =>
  intro a' w' hb hd
  have e7 : a'.tmps[7]?.getD undef = .agg #[.int .i64 f.1, .slice fa f.2.length fc] := ev (slot_w hd 7 (exV (.agg #[.int .i64 f.1, .slice fa f.2.length fc])) rfl rfl)
  have e8 : a'.tmps[8]?.getD undef = .int .i64 s := ev (slot_w hd 8 (exV (.int .i64 s)) rfl rfl)
  have d15 := slot_w hd 15 (rdS intsT [a, b]) rfl rfl
  obtain ⟨ad15, cap15, e15⟩ := rd_slice d15
  rw [e15] at d15
  have e15' := ev e15
  go_simp
  exact ⟨Below.refl _ _, (opAt_any w' (f := f) (HFR.out.below hb) d15 HF.out H2L.out (in2 HRa.out HRb.out)).mono fun e w'' ⟨he, hb⟩ => ⟨_, he, hb, congrArg (Value.int .i64) EV1.out⟩⟩
 case j1_12 =>
  intro a' w' hb hd
  have e0 : a'.tmps[0]?.getD undef = .slice (some ⟨db, dO, none⟩) 3 lc := ev (slot_o hd 0 rfl rfl)
  go_simp
  exact ⟨Below.refl _ _, rfl⟩
 case j1_13 =>
  intro a' w' hb hd
  have e17 : a'.tmps[17]?.getD undef = .slice (some ⟨db, dO, none⟩) 3 lc := ev (slot_w hd 17 (exV (.slice (some ⟨db, dO, none⟩) 3 lc)) rfl rfl)
  go_simp
  exact ⟨Below.refl _ _, rfl⟩
 case j1_14 =>
  intro a' w' hb hd
  have e18 : a'.tmps[18]?.getD undef = .pointer (some ⟨db, dO + 2, none⟩) := ev (slot_w hd 18 (exV (.pointer (some ⟨db, dO + 2, none⟩))) rfl rfl)
  have q : ∀ b o, b < w.heap.size → w'.cell? ⟨b, o, none⟩ = w.cell? ⟨b, o, none⟩ := (bcell hb).1
  go_simp
  exact ⟨Below.refl _ _, rfl⟩
 case j1_15 =>
  intro a' w' hb hd
  have e16 : a'.tmps[16]?.getD undef = .int .i64 V1 := ev (slot_w hd 16 (exV (.int .i64 V1)) rfl rfl)
  have e19 : a'.tmps[19]?.getD undef = .int .i64 c := ev (slot_w hd 19 (exV (.int .i64 c)) rfl rfl)
  go_simp
  exact ⟨bA, (fr_ints2 (base := 0) HV1.out Hc.out rfl (Nat.zero_le _)).rd⟩
 case j1_16 =>
  intro a' w' hb hd
  have e5 : a'.tmps[5]?.getD undef = .agg #[.int .i64 f.1, .slice fa f.2.length fc] := ev (slot_w hd 5 (exV (.agg #[.int .i64 f.1, .slice fa f.2.length fc])) rfl rfl)
  have e6 : a'.tmps[6]?.getD undef = .int .i64 s := ev (slot_w hd 6 (exV (.int .i64 s)) rfl rfl)
  have d20 := slot_w hd 20 (rdS intsT [V1, c]) rfl rfl
  obtain ⟨ad20, cap20, e20⟩ := rd_slice d20
  rw [e20] at d20
  have e20' := ev e20
  go_simp
  exact ⟨Below.refl _ _, (opAt_any w' (f := f) (HFR.out.below hb) d20 HF.out H2L.out (in2 HRV1.out HRc.out)).mono fun e w'' ⟨he, hb⟩ => ⟨_, he, hb, congrArg (Value.int .i64) EV2.out⟩⟩
 case j1_17 =>
  intro a' w' hb hd
  have e1 : a'.tmps[1]?.getD undef = .pointer (some ⟨bf, 0, none⟩) := ev (slot_o hd 1 rfl rfl)
  have q : ∀ b o, b < w.heap.size → w'.cell? ⟨b, o, none⟩ = w.cell? ⟨b, o, none⟩ := (bcell hb).1
  go_simp
  exact ⟨Below.refl _ _, rfl⟩
 case j1_18 =>
  intro a' w' hb hd
  have e2 : a'.tmps[2]?.getD undef = .pointer (some ⟨bs, 0, none⟩) := ev (slot_o hd 2 rfl rfl)
  have q : ∀ b o, b < w.heap.size → w'.cell? ⟨b, o, none⟩ = w.cell? ⟨b, o, none⟩ := (bcell hb).1
  go_simp
  exact ⟨Below.refl _ _, rfl⟩
 case j1_19 =>
  intro a' w' hb hd
  have e0 : a'.tmps[0]?.getD undef = .slice (some ⟨db, dO, none⟩) 3 lc := ev (slot_o hd 0 rfl rfl)
  go_simp
  exact ⟨Below.refl _ _, rfl⟩
 case j1_20 =>
  intro a' w' hb hd
  have e24 : a'.tmps[24]?.getD undef = .slice (some ⟨db, dO, none⟩) 3 lc := ev (slot_w hd 24 (exV (.slice (some ⟨db, dO, none⟩) 3 lc)) rfl rfl)
  go_simp
  exact ⟨Below.refl _ _, rfl⟩
 case j1_21 =>
  intro a' w' hb hd
  have e25 : a'.tmps[25]?.getD undef = .pointer (some ⟨db, dO, none⟩) := ev (slot_w hd 25 (exV (.pointer (some ⟨db, dO, none⟩))) rfl rfl)
  have q : ∀ b o, b < w.heap.size → w'.cell? ⟨b, o, none⟩ = w.cell? ⟨b, o, none⟩ := (bcell hb).1
  go_simp
  exact ⟨Below.refl _ _, rfl⟩
 case j1_22 =>
  intro a' w' hb hd
  have e1 : a'.tmps[1]?.getD undef = .pointer (some ⟨bf, 0, none⟩) := ev (slot_o hd 1 rfl rfl)
  have q : ∀ b o, b < w.heap.size → w'.cell? ⟨b, o, none⟩ = w.cell? ⟨b, o, none⟩ := (bcell hb).1
  go_simp
  exact ⟨Below.refl _ _, rfl⟩
 case j1_23 =>
  intro a' w' hb hd
  have e2 : a'.tmps[2]?.getD undef = .pointer (some ⟨bs, 0, none⟩) := ev (slot_o hd 2 rfl rfl)
  have q : ∀ b o, b < w.heap.size → w'.cell? ⟨b, o, none⟩ = w.cell? ⟨b, o, none⟩ := (bcell hb).1
  go_simp
  exact ⟨Below.refl _ _, rfl⟩
 case j1_24 =>
  intro a' w' hb hd
  have e0 : a'.tmps[0]?.getD undef = .slice (some ⟨db, dO, none⟩) 3 lc := ev (slot_o hd 0 rfl rfl)
  go_simp
  exact ⟨Below.refl _ _, rfl⟩
 case j1_25 =>
  intro a' w' hb hd
  have e29 : a'.tmps[29]?.getD undef = .slice (some ⟨db, dO, none⟩) 3 lc := ev (slot_w hd 29 (exV (.slice (some ⟨db, dO, none⟩) 3 lc)) rfl rfl)
  go_simp
  exact ⟨Below.refl _ _, rfl⟩
 case j1_26 =>
  intro a' w' hb hd
  have e30 : a'.tmps[30]?.getD undef = .pointer (some ⟨db, dO + 1, none⟩) := ev (slot_w hd 30 (exV (.pointer (some ⟨db, dO + 1, none⟩))) rfl rfl)
  have q : ∀ b o, b < w.heap.size → w'.cell? ⟨b, o, none⟩ = w.cell? ⟨b, o, none⟩ := (bcell hb).1
  go_simp
  exact ⟨Below.refl _ _, rfl⟩
 case j1_27 =>
  intro a' w' hb hd
  have e0 : a'.tmps[0]?.getD undef = .slice (some ⟨db, dO, none⟩) 3 lc := ev (slot_o hd 0 rfl rfl)
  go_simp
  exact ⟨Below.refl _ _, rfl⟩
 case j1_28 =>
  intro a' w' hb hd
  have e32 : a'.tmps[32]?.getD undef = .slice (some ⟨db, dO, none⟩) 3 lc := ev (slot_w hd 32 (exV (.slice (some ⟨db, dO, none⟩) 3 lc)) rfl rfl)
  go_simp
  exact ⟨Below.refl _ _, rfl⟩
 case j1_29 =>
  intro a' w' hb hd
  have e33 : a'.tmps[33]?.getD undef = .pointer (some ⟨db, dO + 2, none⟩) := ev (slot_w hd 33 (exV (.pointer (some ⟨db, dO + 2, none⟩))) rfl rfl)
  have q : ∀ b o, b < w.heap.size → w'.cell? ⟨b, o, none⟩ = w.cell? ⟨b, o, none⟩ := (bcell hb).1
  go_simp
  exact ⟨Below.refl _ _, rfl⟩
 case j1_30 =>
  intro a' w' hb hd
  have e31 : a'.tmps[31]?.getD undef = .int .i64 b := ev (slot_w hd 31 (exV (.int .i64 b)) rfl rfl)
  have e34 : a'.tmps[34]?.getD undef = .int .i64 c := ev (slot_w hd 34 (exV (.int .i64 c)) rfl rfl)
  go_simp
  exact ⟨bA, (fr_ints2 (base := 0) Hb.out Hc.out rfl (Nat.zero_le _)).rd⟩
 case j1_31 =>
  intro a' w' hb hd
  have e27 : a'.tmps[27]?.getD undef = .agg #[.int .i64 f.1, .slice fa f.2.length fc] := ev (slot_w hd 27 (exV (.agg #[.int .i64 f.1, .slice fa f.2.length fc])) rfl rfl)
  have e28 : a'.tmps[28]?.getD undef = .int .i64 s := ev (slot_w hd 28 (exV (.int .i64 s)) rfl rfl)
  have d35 := slot_w hd 35 (rdS intsT [b, c]) rfl rfl
  obtain ⟨ad35, cap35, e35⟩ := rd_slice d35
  rw [e35] at d35
  have e35' := ev e35
  go_simp
  exact ⟨Below.refl _ _, (opAt_any w' (f := f) (HFR.out.below hb) d35 HF.out H2L.out (in2 HRb.out HRc.out)).mono fun e w'' ⟨he, hb⟩ => ⟨_, he, hb, congrArg (Value.int .i64) EV3.out⟩⟩
 case j1_32 =>
  intro a' w' hb hd
  have e26 : a'.tmps[26]?.getD undef = .int .i64 a := ev (slot_w hd 26 (exV (.int .i64 a)) rfl rfl)
  have e36 : a'.tmps[36]?.getD undef = .int .i64 V3 := ev (slot_w hd 36 (exV (.int .i64 V3)) rfl rfl)
  go_simp
  exact ⟨bA, (fr_ints2 (base := 0) Ha.out HV3.out rfl (Nat.zero_le _)).rd⟩
 case j1_33 =>
  intro a' w' hb hd
  have e22 : a'.tmps[22]?.getD undef = .agg #[.int .i64 f.1, .slice fa f.2.length fc] := ev (slot_w hd 22 (exV (.agg #[.int .i64 f.1, .slice fa f.2.length fc])) rfl rfl)
  have e23 : a'.tmps[23]?.getD undef = .int .i64 s := ev (slot_w hd 23 (exV (.int .i64 s)) rfl rfl)
  have d37 := slot_w hd 37 (rdS intsT [a, V3]) rfl rfl
  obtain ⟨ad37, cap37, e37⟩ := rd_slice d37
  rw [e37] at d37
  have e37' := ev e37
  go_simp
  exact ⟨Below.refl _ _, (opAt_any w' (f := f) (HFR.out.below hb) d37 HF.out H2L.out (in2 HRa.out HRV3.out)).mono fun e w'' ⟨he, hb⟩ => ⟨_, he, hb, congrArg (Value.int .i64) EV4.out⟩⟩
 case j1_34 =>
  intro a' w' hb hd
  have e21 : a'.tmps[21]?.getD undef = .int .i64 V2 := ev (slot_w hd 21 (exV (.int .i64 V2)) rfl rfl)
  have e38 : a'.tmps[38]?.getD undef = .int .i64 V4 := ev (slot_w hd 38 (exV (.int .i64 V4)) rfl rfl)
  go_simp
  exact ⟨Below.refl _ _, rfl⟩
 case j1_35 =>
  intro a' w' hb hd
  have e39 : a'.tmps[39]?.getD undef = .bool (V2 == V4) := ev (slot_w hd 39 (exV (.bool (V2 == V4))) rfl rfl)
  go_simp
  exact ⟨Below.refl _ _, rfl⟩
 intro vs1 w1 hb1 H0
 obtain ⟨v1_0, _, rfl, p0, H1⟩ := HAll_cons H0
 obtain ⟨v1_1, _, rfl, p1, H2⟩ := HAll_cons H1
 obtain ⟨v1_2, _, rfl, p2, H3⟩ := HAll_cons H2
 obtain ⟨v1_3, _, rfl, p3, H4⟩ := HAll_cons H3
 obtain ⟨v1_4, _, rfl, p4, H5⟩ := HAll_cons H4
 obtain ⟨v1_5, _, rfl, p5, H6⟩ := HAll_cons H5
 obtain ⟨v1_6, _, rfl, p6, H7⟩ := HAll_cons H6
 obtain ⟨v1_7, _, rfl, p7, H8⟩ := HAll_cons H7
 obtain ⟨v1_8, _, rfl, p8, H9⟩ := HAll_cons H8
 obtain ⟨v1_9, _, rfl, p9, H10⟩ := HAll_cons H9
 obtain ⟨v1_10, _, rfl, p10, H11⟩ := HAll_cons H10
 obtain ⟨v1_11, _, rfl, p11, H12⟩ := HAll_cons H11
 obtain ⟨v1_12, _, rfl, p12, H13⟩ := HAll_cons H12
 obtain ⟨v1_13, _, rfl, p13, H14⟩ := HAll_cons H13
 obtain ⟨v1_14, _, rfl, p14, H15⟩ := HAll_cons H14
 obtain ⟨v1_15, _, rfl, p15, H16⟩ := HAll_cons H15
 obtain ⟨v1_16, _, rfl, p16, H17⟩ := HAll_cons H16
 obtain ⟨v1_17, _, rfl, p17, H18⟩ := HAll_cons H17
 obtain ⟨v1_18, _, rfl, p18, H19⟩ := HAll_cons H18
 obtain ⟨v1_19, _, rfl, p19, H20⟩ := HAll_cons H19
 obtain ⟨v1_20, _, rfl, p20, H21⟩ := HAll_cons H20
 obtain ⟨v1_21, _, rfl, p21, H22⟩ := HAll_cons H21
 obtain ⟨v1_22, _, rfl, p22, H23⟩ := HAll_cons H22
 obtain ⟨v1_23, _, rfl, p23, H24⟩ := HAll_cons H23
 obtain ⟨v1_24, _, rfl, p24, H25⟩ := HAll_cons H24
 obtain ⟨v1_25, _, rfl, p25, H26⟩ := HAll_cons H25
 obtain ⟨v1_26, _, rfl, p26, H27⟩ := HAll_cons H26
 obtain ⟨v1_27, _, rfl, p27, H28⟩ := HAll_cons H27
 obtain ⟨v1_28, _, rfl, p28, H29⟩ := HAll_cons H28
 obtain ⟨v1_29, _, rfl, p29, H30⟩ := HAll_cons H29
 obtain ⟨v1_30, _, rfl, p30, H31⟩ := HAll_cons H30
 obtain ⟨v1_31, _, rfl, p31, H32⟩ := HAll_cons H31
 obtain ⟨v1_32, _, rfl, p32, H33⟩ := HAll_cons H32
 obtain ⟨v1_33, _, rfl, p33, H34⟩ := HAll_cons H33
 obtain ⟨v1_34, _, rfl, p34, H35⟩ := HAll_cons H34
 obtain ⟨v1_35, _, rfl, p35, H36⟩ := HAll_cons H35
 obtain rfl := HAll_nil H36
 obtain rfl := p0 rfl
 obtain rfl := p1 rfl
 obtain rfl := p2 rfl
 obtain rfl := p3 rfl
 obtain rfl := p4 rfl
 obtain rfl := p5 rfl
 obtain rfl := p6 rfl
 obtain rfl := p7 rfl
 obtain rfl := p8 rfl
 obtain rfl := p9 rfl
 obtain rfl := p11 rfl
 obtain rfl := p12 rfl
 obtain rfl := p13 rfl
 obtain rfl := p14 rfl
 obtain rfl := p16 rfl
 obtain rfl := p17 rfl
 obtain rfl := p18 rfl
 obtain rfl := p19 rfl
 obtain rfl := p20 rfl
 obtain rfl := p21 rfl
 obtain rfl := p22 rfl
 obtain rfl := p23 rfl
 obtain rfl := p24 rfl
 obtain rfl := p25 rfl
 obtain rfl := p26 rfl
 obtain rfl := p27 rfl
 obtain rfl := p28 rfl
 obtain rfl := p29 rfl
 obtain rfl := p31 rfl
 obtain rfl := p33 rfl
 obtain rfl := p34 rfl
 obtain rfl := p35 rfl
 clear p0 p1 p2 p3 p4 p5 p6 p7 p8 p9 p10 p11 p12 p13 p14 p15 p16 p17 p18 p19 p20 p21 p22 p23 p24 p25 p26 p27 p28 p29 p30 p31 p32 p33 p34 p35 H0 H1 H2 H3 H4 H5 H6 H7 H8 H9 H10 H11 H12 H13 H14 H15 H16 H17 H18 H19 H20 H21 H22 H23 H24 H25 H26 H27 H28 H29 H30 H31 H32 H33 H34 H35 H36
 simp only [putAll, Act.put]
 go_simp
 go_wp2_with fail
 go_ret
 exact ⟨rfl, hb1⟩
/-- three numbers side by side -/
abbrev arr3T : Ty (Int × Int × Int) := Ty.cons (Ty.cons Ty.int)
theorem arr3_rd {w : World} {a b c : Int} (ha : I64 a) (hb : I64 b) (hc : I64 c) : arr3T.rd w [.int .i64 a, .int .i64 b, .int .i64 c] (a, b, c) [] := ⟨_, rfl, ha, _, rfl, hb, rfl, hc, rfl⟩
theorem arr3_ex {w : World} {cs : List Value} {a b c : Int} {fp : List Nat} (h : arr3T.rd w cs (a, b, c) fp) : cs = [.int .i64 a, .int .i64 b, .int .i64 c] := by
 obtain ⟨_, rfl, -, _, rfl, -, rfl, -⟩ := h
 rfl
/-- what a function tells of two numbers: three numbers -/
def Tells3 (P : Program) (g : Nat) (W0 W1 W2 : Int → Int → Int) : Prop := ∀ (w : World) (x y : Int), Calls P g #[.int .i64 x, .int .i64 y] w fun e w' => e = .returned (.agg #[.int .i64 (W0 x y), .int .i64 (W1 x y), .int .i64 (W2 x y)]) ∧ Below w.heap.size w w'
theorem isKind4_any : Tells3 Tryz.prog 203 (fun x _ => x) (fun x _ => x) (fun x _ => x) := by
 intro w x y
 go_enter Tryz.func203, Tryz.ntmps203
 go_wp2_with fail
 refine bodyPost_ret (v := .agg #[.int .i64 x, .int .i64 x, .int .i64 x]) (by simp [results, Tryz.results203, go_sem]) rfl ⟨rfl, (by repeat (first | exact Below.refl _ _ | exact bA | assumption | refine Below.setCell ?_ (by first | omega | (simp; try omega)) _ | refine Below.alloc ?_ (by first | omega | (simp; try omega)) _ | refine Below.drew ?_ | refine bDN ?_ | refine bthen ?_ (by assumption)))⟩
theorem isKind5_any : Tells3 Tryz.prog 204 (fun _ y => y) (fun _ y => y) (fun _ y => y) := by
 intro w x y
 go_enter Tryz.func204, Tryz.ntmps204
 go_wp2_with fail
 refine bodyPost_ret (v := .agg #[.int .i64 y, .int .i64 y, .int .i64 y]) (by simp [results, Tryz.results204, go_sem]) rfl ⟨rfl, (by repeat (first | exact Below.refl _ _ | exact bA | assumption | refine Below.setCell ?_ (by first | omega | (simp; try omega)) _ | refine Below.alloc ?_ (by first | omega | (simp; try omega)) _ | refine Below.drew ?_ | refine bDN ?_ | refine bthen ?_ (by assumption)))⟩
theorem isKind6_any : Tells3 Tryz.prog 205 (fun _ y => y) (fun _ _ => -1) (fun _ y => y) := by
 intro w x y
 go_enter Tryz.func205, Tryz.ntmps205
 go_wp2_with fail
 refine bodyPost_ret (v := .agg #[.int .i64 y, .int .i64 (-1), .int .i64 y]) (by simp [results, Tryz.results205, go_sem]) rfl ⟨rfl, (by repeat (first | exact Below.refl _ _ | exact bA | assumption | refine Below.setCell ?_ (by first | omega | (simp; try omega)) _ | refine Below.alloc ?_ (by first | omega | (simp; try omega)) _ | refine Below.drew ?_ | refine bDN ?_ | refine bthen ?_ (by assumption)))⟩
/-- a value is as wanted, where something is wanted -/
def wantB (v n : Int) : Bool := !(decide (0 ≤ n) && (v != n))
theorem want_neg {v n : Int} (h : decide (0 ≤ n) = false) : wantB v n = true := by simp [wantB, h]
theorem want_ne {v n : Int} (h : decide (0 ≤ n) = true) (h' : (v != n) = true) : wantB v n = false := by simp [wantB, h, h']
theorem want_eq {v n : Int} (h' : (v != n) = false) : wantB v n = true := by simp [wantB, h']
set_option maxHeartbeats 6400000 in
set_option maxRecDepth 100000 in
theorem isTernary1_any (w : World) {u : Value} {x y : Int} (hu : intsT.Rd w [u] [x, y]) {f : Int × List Int} {s : Int} {bs bf bw : Nat} (hc : w.cell? ⟨bs, 0, none⟩ = some (.int .i64 s)) (hP : opT.Pt w (.pointer (some ⟨bf, 0, none⟩)) f) {g : Nat} {W0 W1 W2 : Int → Int → Int} (hw : w.cell? ⟨bw, 0, none⟩ = some (.func (.func g) #[] #[])) (eg : ∀ args w, (callFunc g args).run Tryz.prog w = .ok (.enter g args) w) (hG : Tells3 Tryz.prog g W0 W1 W2)
  (hf : opOk s f) (h3 : f.1 = 3) (hin : inS s [x, y]) :
  Calls Tryz.prog 235 #[u, .pointer (some ⟨bf, 0, none⟩), .pointer (some ⟨bs, 0, none⟩), .pointer (some ⟨bw, 0, none⟩)] w fun e w' => e = .returned (.bool (wantB (opV s f.2 [x, x, y]) (W0 x y) && wantB (opV s f.2 [x, y, x]) (W1 x y) && wantB (opV s f.2 [y, x, x]) (W2 x y))) ∧ Below w.heap.size w w' := by
 obtain ⟨fb, fo, fa, fc, hpe, hfb, hIf, f0, f1, hfx⟩ := pt_pair hP
 simp only [Value.pointer.injEq, Option.some.injEq, Addr.mk.injEq, and_true] at hpe
 obtain ⟨rfl, rfl⟩ := hpe
 obtain ⟨ad, lc, e1, -, -, hcell⟩ := ints_ex hu
 obtain rfl : u = _ := by simpa using e1
 obtain ⟨db, dO, rfl, hdb, hce⟩ := hcell (by simp)
 have d0 : w.cell? ⟨db, dO, none⟩ = some (.int .i64 x) := (hce 0 (by simp)).2
 have d1 : w.cell? ⟨db, dO + 1, none⟩ = some (.int .i64 y) := (hce 1 (by simp)).2
 replace f1 : w.cell? ⟨bf, 1, none⟩ = some (.slice fa f.2.length fc) := f1
 have hs := (op_dims hf).1
 have rx : 0 ≤ x ∧ x ≤ s - 1 := hin x (by simp)
 have ry : 0 ≤ y ∧ y ≤ s - 1 := hin y (by simp)
 have hl3 : ∀ x y z : Int, ((([x, y, z] : List Int).length : Nat) : Int) = f.1 := fun _ _ _ => by rw [h3]; rfl
 have r1 := opV_in hf (hl3 x x y) (in3 rx rx ry)
 have r2 := opV_in hf (hl3 x y x) (in3 rx ry rx)
 have r3 := opV_in hf (hl3 y x x) (in3 ry rx rx)
 obtain ⟨V1, hV1⟩ : ∃ V, opV s f.2 [x, x, y] = V := ⟨_, rfl⟩
 obtain ⟨V2, hV2⟩ : ∃ V, opV s f.2 [x, y, x] = V := ⟨_, rfl⟩
 obtain ⟨V3, hV3⟩ : ∃ V, opV s f.2 [y, x, x] = V := ⟨_, rfl⟩
 rw [hV1] at r1 ⊢
 rw [hV2] at r2 ⊢
 rw [hV3] at r3 ⊢
 have hbs := cell_lt hc
 have hbw := cell_lt hw
 have HF := Lib.hid hf
 have HFR : Hid (opT.Rd w [.int .i64 f.1, .slice fa f.2.length fc] f) := pair_mk hIf hfx
 have H3L : Hid (((3 : Nat) : Int) = f.1) := h3.symm
 have Hx := Lib.hid (i64_in hs rx)
 have Hy := Lib.hid (i64_in hs ry)
 have HV1 := Lib.hid (i64_in hs r1)
 have HV2 := Lib.hid (i64_in hs r2)
 have HV3 := Lib.hid (i64_in hs r3)
 have HRx := Lib.hid rx
 have HRy := Lib.hid ry
 have EV1 := Lib.hid hV1
 have EV2 := Lib.hid hV2
 have EV3 := Lib.hid hV3
 have hG' := fun w => hG w x y
 generalize W0 x y = n0 at hG' ⊢
 generalize W1 x y = n1 at hG' ⊢
 generalize W2 x y = n2 at hG' ⊢
 have HG := Lib.hid hG'
 clear hu hin hf hfx hP e1 hcell hce h3 hl3 rx ry r1 r2 r3 hV1 hV2 hV3 hG hG'
 go_enter Tryz.func235, Tryz.ntmps235
 go_wp2_with fail
 go_quiet (fail)
 generalize hX : w.drewN _ = wr0
 have hbr0 : Below w.heap.size w wr0 := hX ▸ (Quiet.drewN w _).below
 have hzr0 := hbr0.size
 clear hX
 replace hc := (cellB hbr0 (by omega)).trans hc
 replace hw := (cellB hbr0 (by omega)).trans hw
 replace f0 := (cellB hbr0 (by omega)).trans f0
 replace f1 := (cellB hbr0 (by omega)).trans f1
 replace HFR := Lib.hid (HFR.out.below hbr0)
 have hbs2 : bs < wr0.heap.size := by omega
 have hfb2 : bf < wr0.heap.size := by omega
 have hbw2 : bw < wr0.heap.size := by omega
 go_wp2_with fail
 refine wp_region_box [(.plain, exO (.agg #[.int .i64 f.1, .slice fa f.2.length fc])), (.plain, exO (.int .i64 s)), (.plain, exO (.int .i64 x)), (.plain, exO (.int .i64 x)), (.plain, exO (.int .i64 y)), (.plain, rdSO intsT [x, x, y]), (.plain, exO (.int .i64 V1)), (.plain, exO (.agg #[.int .i64 f.1, .slice fa f.2.length fc])), (.plain, exO (.int .i64 s)), (.plain, exO (.int .i64 x)), (.plain, exO (.int .i64 y)), (.plain, exO (.int .i64 x)), (.plain, rdSO intsT [x, y, x]), (.plain, exO (.int .i64 V2)), (.plain, exO (.agg #[.int .i64 f.1, .slice fa f.2.length fc])), (.plain, exO (.int .i64 s)), (.plain, exO (.int .i64 y)), (.plain, exO (.int .i64 x)), (.plain, exO (.int .i64 x)), (.plain, rdSO intsT [y, x, x]), (.plain, exO (.int .i64 V3)), (.plain, exO (.agg #[.int .i64 V1, .int .i64 V2, .int .i64 V3])), (.alloc, boxO 3), (.store, heldO arr3T 0 (V1, V2, V3))] (by kernel_rfl) (by kernel_rfl) ⟨st_exO, st_exO, st_exO, st_exO, st_exO, st_rdSO, st_exO, st_exO, st_exO, st_exO, st_exO, st_exO, st_rdSO, st_exO, st_exO, st_exO, st_exO, st_exO, st_exO, st_rdSO, st_exO, st_exO, st_boxO, st_heldO, trivial⟩ ⟨?j2_0, ?j2_1, ?j2_2, ?j2_3, ?j2_4, ?j2_5, ?j2_6, ?j2_7, ?j2_8, ?j2_9, ?j2_10, ?j2_11, ?j2_12, ?j2_13, ?j2_14, ?j2_15, ?j2_16, ?j2_17, ?j2_18, ?j2_19, ?j2_20, ?j2_21, ?j2_22, ?j2_23, trivial⟩ ?hQ2
 case j2_0 =>
  intro a' w' ob hb hbo hal hd
  have e1 : a'.tmps[1]?.getD undef = .pointer (some ⟨bf, 0, none⟩) := ev (slot_o2 hd 1 rfl rfl)
  have q : ∀ b o, b < wr0.heap.size → w'.cell? ⟨b, o, none⟩ = wr0.cell? ⟨b, o, none⟩ := (bcell hb).1
  go_simp
  exact ⟨_, ⟨rfl, Below.refl _ _⟩, rfl⟩
 case j2_1 =>
  intro a' w' ob hb hbo hal hd
  have e2 : a'.tmps[2]?.getD undef = .pointer (some ⟨bs, 0, none⟩) := ev (slot_o2 hd 2 rfl rfl)
  have q : ∀ b o, b < wr0.heap.size → w'.cell? ⟨b, o, none⟩ = wr0.cell? ⟨b, o, none⟩ := (bcell hb).1
  go_simp
  exact ⟨_, ⟨rfl, Below.refl _ _⟩, rfl⟩
 case j2_2 =>
  intro a' w' ob hb hbo hal hd
  have e6 : a'.tmps[6]?.getD undef = .int .i64 x := ev (slot_o2 hd 6 rfl rfl)
  go_simp
  exact ⟨_, ⟨rfl, Below.refl _ _⟩, rfl⟩
 case j2_3 =>
  intro a' w' ob hb hbo hal hd
  have e6 : a'.tmps[6]?.getD undef = .int .i64 x := ev (slot_o2 hd 6 rfl rfl)
  go_simp
  exact ⟨_, ⟨rfl, Below.refl _ _⟩, rfl⟩
 case j2_4 =>
  intro a' w' ob hb hbo hal hd
  have e7 : a'.tmps[7]?.getD undef = .int .i64 y := ev (slot_o2 hd 7 rfl rfl)
  go_simp
  exact ⟨_, ⟨rfl, Below.refl _ _⟩, rfl⟩
 case j2_5 =>
  intro a' w' ob hb hbo hal hd
  have e19 : a'.tmps[19]?.getD undef = .int .i64 x := ev (slot_w2 hd 19 (exO (.int .i64 x)) rfl rfl)
  have e20 : a'.tmps[20]?.getD undef = .int .i64 x := ev (slot_w2 hd 20 (exO (.int .i64 x)) rfl rfl)
  have e21 : a'.tmps[21]?.getD undef = .int .i64 y := ev (slot_w2 hd 21 (exO (.int .i64 y)) rfl rfl)
  go_simp
  exact ⟨_, ⟨rfl, bA⟩, rdSO_mk (fr_ints3 (base := w'.heap.size) Hx.out Hx.out Hy.out rfl (Nat.le_refl _)) hbo⟩
 case j2_6 =>
  intro a' w' ob hb hbo hal hd
  have e17 : a'.tmps[17]?.getD undef = .agg #[.int .i64 f.1, .slice fa f.2.length fc] := ev (slot_w2 hd 17 (exO (.agg #[.int .i64 f.1, .slice fa f.2.length fc])) rfl rfl)
  have e18 : a'.tmps[18]?.getD undef = .int .i64 s := ev (slot_w2 hd 18 (exO (.int .i64 s)) rfl rfl)
  have d22 := slot_w2 hd 22 (rdSO intsT [x, x, y]) rfl rfl
  replace d22 := d22.rd
  obtain ⟨ad22, cap22, e22⟩ := rd_slice d22
  rw [e22] at d22
  have e22' := ev e22
  go_simp
  exact ⟨rfl, Below.refl _ _, (opAt_any w' (f := f) (HFR.out.below hb) d22 HF.out H3L.out (in3 HRx.out HRx.out HRy.out)).mono fun e w'' ⟨he, hb⟩ => ⟨_, he, hb, congrArg (Value.int .i64) EV1.out⟩⟩
 case j2_7 =>
  intro a' w' ob hb hbo hal hd
  have e1 : a'.tmps[1]?.getD undef = .pointer (some ⟨bf, 0, none⟩) := ev (slot_o2 hd 1 rfl rfl)
  have q : ∀ b o, b < wr0.heap.size → w'.cell? ⟨b, o, none⟩ = wr0.cell? ⟨b, o, none⟩ := (bcell hb).1
  go_simp
  exact ⟨_, ⟨rfl, Below.refl _ _⟩, rfl⟩
 case j2_8 =>
  intro a' w' ob hb hbo hal hd
  have e2 : a'.tmps[2]?.getD undef = .pointer (some ⟨bs, 0, none⟩) := ev (slot_o2 hd 2 rfl rfl)
  have q : ∀ b o, b < wr0.heap.size → w'.cell? ⟨b, o, none⟩ = wr0.cell? ⟨b, o, none⟩ := (bcell hb).1
  go_simp
  exact ⟨_, ⟨rfl, Below.refl _ _⟩, rfl⟩
 case j2_9 =>
  intro a' w' ob hb hbo hal hd
  have e6 : a'.tmps[6]?.getD undef = .int .i64 x := ev (slot_o2 hd 6 rfl rfl)
  go_simp
  exact ⟨_, ⟨rfl, Below.refl _ _⟩, rfl⟩
 case j2_10 =>
  intro a' w' ob hb hbo hal hd
  have e7 : a'.tmps[7]?.getD undef = .int .i64 y := ev (slot_o2 hd 7 rfl rfl)
  go_simp
  exact ⟨_, ⟨rfl, Below.refl _ _⟩, rfl⟩
 case j2_11 =>
  intro a' w' ob hb hbo hal hd
  have e6 : a'.tmps[6]?.getD undef = .int .i64 x := ev (slot_o2 hd 6 rfl rfl)
  go_simp
  exact ⟨_, ⟨rfl, Below.refl _ _⟩, rfl⟩
 case j2_12 =>
  intro a' w' ob hb hbo hal hd
  have e26 : a'.tmps[26]?.getD undef = .int .i64 x := ev (slot_w2 hd 26 (exO (.int .i64 x)) rfl rfl)
  have e27 : a'.tmps[27]?.getD undef = .int .i64 y := ev (slot_w2 hd 27 (exO (.int .i64 y)) rfl rfl)
  have e28 : a'.tmps[28]?.getD undef = .int .i64 x := ev (slot_w2 hd 28 (exO (.int .i64 x)) rfl rfl)
  go_simp
  exact ⟨_, ⟨rfl, bA⟩, rdSO_mk (fr_ints3 (base := w'.heap.size) Hx.out Hy.out Hx.out rfl (Nat.le_refl _)) hbo⟩
 case j2_13 =>
  intro a' w' ob hb hbo hal hd
  have e24 : a'.tmps[24]?.getD undef = .agg #[.int .i64 f.1, .slice fa f.2.length fc] := ev (slot_w2 hd 24 (exO (.agg #[.int .i64 f.1, .slice fa f.2.length fc])) rfl rfl)
  have e25 : a'.tmps[25]?.getD undef = .int .i64 s := ev (slot_w2 hd 25 (exO (.int .i64 s)) rfl rfl)
  have d29 := slot_w2 hd 29 (rdSO intsT [x, y, x]) rfl rfl
  replace d29 := d29.rd
  obtain ⟨ad29, cap29, e29⟩ := rd_slice d29
  rw [e29] at d29
  have e29' := ev e29
  go_simp
  exact ⟨rfl, Below.refl _ _, (opAt_any w' (f := f) (HFR.out.below hb) d29 HF.out H3L.out (in3 HRx.out HRy.out HRx.out)).mono fun e w'' ⟨he, hb⟩ => ⟨_, he, hb, congrArg (Value.int .i64) EV2.out⟩⟩
 case j2_14 =>
  intro a' w' ob hb hbo hal hd
  have e1 : a'.tmps[1]?.getD undef = .pointer (some ⟨bf, 0, none⟩) := ev (slot_o2 hd 1 rfl rfl)
  have q : ∀ b o, b < wr0.heap.size → w'.cell? ⟨b, o, none⟩ = wr0.cell? ⟨b, o, none⟩ := (bcell hb).1
  go_simp
  exact ⟨_, ⟨rfl, Below.refl _ _⟩, rfl⟩
 case j2_15 =>
  intro a' w' ob hb hbo hal hd
  have e2 : a'.tmps[2]?.getD undef = .pointer (some ⟨bs, 0, none⟩) := ev (slot_o2 hd 2 rfl rfl)
  have q : ∀ b o, b < wr0.heap.size → w'.cell? ⟨b, o, none⟩ = wr0.cell? ⟨b, o, none⟩ := (bcell hb).1
  go_simp
  exact ⟨_, ⟨rfl, Below.refl _ _⟩, rfl⟩
 case j2_16 =>
  intro a' w' ob hb hbo hal hd
  have e7 : a'.tmps[7]?.getD undef = .int .i64 y := ev (slot_o2 hd 7 rfl rfl)
  go_simp
  exact ⟨_, ⟨rfl, Below.refl _ _⟩, rfl⟩
 case j2_17 =>
  intro a' w' ob hb hbo hal hd
  have e6 : a'.tmps[6]?.getD undef = .int .i64 x := ev (slot_o2 hd 6 rfl rfl)
  go_simp
  exact ⟨_, ⟨rfl, Below.refl _ _⟩, rfl⟩
 case j2_18 =>
  intro a' w' ob hb hbo hal hd
  have e6 : a'.tmps[6]?.getD undef = .int .i64 x := ev (slot_o2 hd 6 rfl rfl)
  go_simp
  exact ⟨_, ⟨rfl, Below.refl _ _⟩, rfl⟩
 case j2_19 =>
  intro a' w' ob hb hbo hal hd
  have e33 : a'.tmps[33]?.getD undef = .int .i64 y := ev (slot_w2 hd 33 (exO (.int .i64 y)) rfl rfl)
  have e34 : a'.tmps[34]?.getD undef = .int .i64 x := ev (slot_w2 hd 34 (exO (.int .i64 x)) rfl rfl)
  have e35 : a'.tmps[35]?.getD undef = .int .i64 x := ev (slot_w2 hd 35 (exO (.int .i64 x)) rfl rfl)
  go_simp
  exact ⟨_, ⟨rfl, bA⟩, rdSO_mk (fr_ints3 (base := w'.heap.size) Hy.out Hx.out Hx.out rfl (Nat.le_refl _)) hbo⟩
 case j2_20 =>
  intro a' w' ob hb hbo hal hd
  have e31 : a'.tmps[31]?.getD undef = .agg #[.int .i64 f.1, .slice fa f.2.length fc] := ev (slot_w2 hd 31 (exO (.agg #[.int .i64 f.1, .slice fa f.2.length fc])) rfl rfl)
  have e32 : a'.tmps[32]?.getD undef = .int .i64 s := ev (slot_w2 hd 32 (exO (.int .i64 s)) rfl rfl)
  have d36 := slot_w2 hd 36 (rdSO intsT [y, x, x]) rfl rfl
  replace d36 := d36.rd
  obtain ⟨ad36, cap36, e36⟩ := rd_slice d36
  rw [e36] at d36
  have e36' := ev e36
  go_simp
  exact ⟨rfl, Below.refl _ _, (opAt_any w' (f := f) (HFR.out.below hb) d36 HF.out H3L.out (in3 HRy.out HRx.out HRx.out)).mono fun e w'' ⟨he, hb⟩ => ⟨_, he, hb, congrArg (Value.int .i64) EV3.out⟩⟩
 case j2_21 =>
  intro a' w' ob hb hbo hal hd
  have e23 : a'.tmps[23]?.getD undef = .int .i64 V1 := ev (slot_w2 hd 23 (exO (.int .i64 V1)) rfl rfl)
  have e30 : a'.tmps[30]?.getD undef = .int .i64 V2 := ev (slot_w2 hd 30 (exO (.int .i64 V2)) rfl rfl)
  have e37 : a'.tmps[37]?.getD undef = .int .i64 V3 := ev (slot_w2 hd 37 (exO (.int .i64 V3)) rfl rfl)
  go_simp
  exact ⟨_, ⟨rfl, Below.refl _ _⟩, rfl⟩
 case j2_22 =>
  intro a' w' ob hb hbo hal hd
  obtain rfl := hal rfl
  go_simp
  exact ⟨_, ⟨rfl, by simp, bA⟩, _, rfl, rfl, by simp, box3⟩
 case j2_23 =>
  intro a' w' ob hb hbo hal hd
  obtain ⟨bb, rfl, e8, hbb, hcl⟩ := slot_w2 hd 8 (boxO 3) rfl rfl
  have e8' := ev e8
  have e38 : a'.tmps[38]?.getD undef = .agg #[.int .i64 V1, .int .i64 V2, .int .i64 V3] := ev (slot_w2 hd 38 (exO (.agg #[.int .i64 V1, .int .i64 V2, .int .i64 V3])) rfl rfl)
  obtain ⟨⟨y0, c0⟩, f0'⟩ := hcl 0 (by decide)
  obtain ⟨⟨y1, c1⟩, f1'⟩ := hcl 1 (by decide)
  obtain ⟨⟨y2, c2⟩, f2'⟩ := hcl 2 (by decide)
  go_simp
  exact held3 (E := arr3T) c0 c1 c2 (arr3_rd HV1.out HV2.out HV3.out) List.nodup_nil (by simp) (fun b hb => by cases hb) (by simp) _
 intro vs2 w2 ob2 hb2 hbo2 H0
 obtain ⟨v2_0, _, rfl, p0, H1⟩ := HAll2_cons H0
 obtain ⟨v2_1, _, rfl, p1, H2⟩ := HAll2_cons H1
 obtain ⟨v2_2, _, rfl, p2, H3⟩ := HAll2_cons H2
 obtain ⟨v2_3, _, rfl, p3, H4⟩ := HAll2_cons H3
 obtain ⟨v2_4, _, rfl, p4, H5⟩ := HAll2_cons H4
 obtain ⟨v2_5, _, rfl, p5, H6⟩ := HAll2_cons H5
 obtain ⟨v2_6, _, rfl, p6, H7⟩ := HAll2_cons H6
 obtain ⟨v2_7, _, rfl, p7, H8⟩ := HAll2_cons H7
 obtain ⟨v2_8, _, rfl, p8, H9⟩ := HAll2_cons H8
 obtain ⟨v2_9, _, rfl, p9, H10⟩ := HAll2_cons H9
 obtain ⟨v2_10, _, rfl, p10, H11⟩ := HAll2_cons H10
 obtain ⟨v2_11, _, rfl, p11, H12⟩ := HAll2_cons H11
 obtain ⟨v2_12, _, rfl, p12, H13⟩ := HAll2_cons H12
 obtain ⟨v2_13, _, rfl, p13, H14⟩ := HAll2_cons H13
 obtain ⟨v2_14, _, rfl, p14, H15⟩ := HAll2_cons H14
 obtain ⟨v2_15, _, rfl, p15, H16⟩ := HAll2_cons H15
 obtain ⟨v2_16, _, rfl, p16, H17⟩ := HAll2_cons H16
 obtain ⟨v2_17, _, rfl, p17, H18⟩ := HAll2_cons H17
 obtain ⟨v2_18, _, rfl, p18, H19⟩ := HAll2_cons H18
 obtain ⟨v2_19, _, rfl, p19, H20⟩ := HAll2_cons H19
 obtain ⟨v2_20, _, rfl, p20, H21⟩ := HAll2_cons H20
 obtain ⟨v2_21, _, rfl, p21, H22⟩ := HAll2_cons H21
 obtain ⟨v2_22, _, rfl, p22, H23⟩ := HAll2_cons H22
 obtain ⟨v2_23, _, rfl, p23, H24⟩ := HAll2_cons H23
 obtain rfl := HAll2_nil H24
 obtain rfl := p0
 obtain rfl := p1
 obtain rfl := p2
 obtain rfl := p3
 obtain rfl := p4
 obtain rfl := p6
 obtain rfl := p7
 obtain rfl := p8
 obtain rfl := p9
 obtain rfl := p10
 obtain rfl := p11
 obtain rfl := p13
 obtain rfl := p14
 obtain rfl := p15
 obtain rfl := p16
 obtain rfl := p17
 obtain rfl := p18
 obtain rfl := p20
 obtain rfl := p21
 clear p5 p12 p19 H0 H1 H2 H3 H4 H5 H6 H7 H8 H9 H10 H11 H12 H13 H14 H15 H16 H17 H18 H19 H20 H21 H22 H23 H24
 obtain ⟨b1, hob1, rfl, hbl, -⟩ := p22
 obtain ⟨b2, cs, fp, hob2, hrd, -, -, -, -, hcl⟩ := p23
 obtain rfl : b1 = b2 := Option.some.inj (hob1.symm.trans hob2)
 obtain rfl := arr3_ex hrd
 have g0 : w2.cell? ⟨b1, 0, none⟩ = some (.int .i64 V1) := hcl 0 (by simp)
 have g1 : w2.cell? ⟨b1, 1, none⟩ = some (.int .i64 V2) := hcl 1 (by simp)
 have g2 : w2.cell? ⟨b1, 2, none⟩ = some (.int .i64 V3) := hcl 2 (by simp)
 have hw2 := (cellB hb2 hbw2).trans hw
 have hbw : Below w.heap.size w w2 := bthen hbr0 hb2
 clear hcl hrd hob1 hob2 hc hw f0 f1 d0 d1 hb2
 simp only [putAll, Act.put]
 go_simp
 go_wp2_with fail
 refine (HG.out w2).mono ?_
 rintro e w3 ⟨rfl, hb3⟩
 have hbw3 := bthen hbw hb3
 replace g0 := (cellB hb3 (by omega)).trans g0
 replace g1 := (cellB hb3 (by omega)).trans g1
 replace g2 := (cellB hb3 (by omega)).trans g2
 clear hw2
 go_wp2_with fail
 have hi0 : ∀ w : World, (Instr.index 204 (.agg #[.int .i64 n0, .int .i64 n1, .int .i64 n2]) (.int .i64 0)).run Tryz.prog w = .ok (.int .i64 n0) w := fun w => by kernel_rfl
 have hi1 : ∀ w : World, (Instr.index 204 (.agg #[.int .i64 n0, .int .i64 n1, .int .i64 n2]) (.int .i64 1)).run Tryz.prog w = .ok (.int .i64 n1) w := fun w => by kernel_rfl
 have hi2 : ∀ w : World, (Instr.index 204 (.agg #[.int .i64 n0, .int .i64 n1, .int .i64 n2]) (.int .i64 2)).run Tryz.prog w = .ok (.int .i64 n2) w := fun w => by kernel_rfl
 go_loopw [43] (fun i wr => ∃ k : Nat, k ≤ 3 ∧ i = .int .i64 k ∧ (0 < k → wantB V1 n0 = true) ∧ (1 < k → wantB V2 n1 = true) ∧ (2 < k → wantB V3 n2 = true) ∧ wr = w3) (fun i _ => 3 - (intOf i).toNat)
 case atStart => exact ⟨0, by omega, rfl, fun h => by omega, fun h => by omega, fun h => by omega, rfl⟩
 case round =>
  obtain ⟨k, hk, rfl, q0, q1, q2, rfl⟩ := hrel
  rcases (show k = 0 ∨ k = 1 ∨ k = 2 ∨ k = 3 by omega) with rfl | rfl | rfl | rfl
  ·cases hA : decide (0 ≤ n0)
   ·have HW := Lib.hid (want_neg (v := V1) hA)
    go_wp2_with fail
    go_roundw
    case rel => exact ⟨1, by omega, by first | rfl | go_num | simp [goInt], fun _ => HW.out, fun h => by omega, fun h => by omega, by first | trivial | rfl⟩
    case measure => simp [intOf]
   ·cases hB : (V1 != n0)
    ·have HW := Lib.hid (want_eq hB)
     go_wp2_with fail
     go_roundw
     case rel => exact ⟨1, by omega, by first | rfl | go_num | simp [goInt], fun _ => HW.out, fun h => by omega, fun h => by omega, by first | trivial | rfl⟩
     case measure => simp [intOf]
    ·have HFALSE := Lib.hid (want_ne hA hB)
     go_wp2_with fail
     go_ret
     exact ⟨ret_bool (by rw [HFALSE.out]; rfl), hbw3⟩
  ·cases hA : decide (0 ≤ n1)
   ·have HW := Lib.hid (want_neg (v := V2) hA)
    go_wp2_with fail
    go_roundw
    case rel => exact ⟨2, by omega, by first | rfl | go_num | simp [goInt], fun _ => q0 (by omega), fun _ => HW.out, fun h => by omega, by first | trivial | rfl⟩
    case measure => simp [intOf]
   ·cases hB : (V2 != n1)
    ·have HW := Lib.hid (want_eq hB)
     go_wp2_with fail
     go_roundw
     case rel => exact ⟨2, by omega, by first | rfl | go_num | simp [goInt], fun _ => q0 (by omega), fun _ => HW.out, fun h => by omega, by first | trivial | rfl⟩
     case measure => simp [intOf]
    ·have HFALSE := Lib.hid (want_ne hA hB)
     go_wp2_with fail
     go_ret
     exact ⟨ret_bool (by rw [HFALSE.out, Bool.and_false, Bool.false_and]), hbw3⟩
  ·cases hA : decide (0 ≤ n2)
   ·have HW := Lib.hid (want_neg (v := V3) hA)
    go_wp2_with fail
    go_roundw
    case rel => exact ⟨3, by omega, by first | rfl | go_num | simp [goInt], fun _ => q0 (by omega), fun _ => q1 (by omega), fun _ => HW.out, by first | trivial | rfl⟩
    case measure => simp [intOf]
   ·cases hB : (V3 != n2)
    ·have HW := Lib.hid (want_eq hB)
     go_wp2_with fail
     go_roundw
     case rel => exact ⟨3, by omega, by first | rfl | go_num | simp [goInt], fun _ => q0 (by omega), fun _ => q1 (by omega), fun _ => HW.out, by first | trivial | rfl⟩
     case measure => simp [intOf]
    ·have HFALSE := Lib.hid (want_ne hA hB)
     go_wp2_with fail
     go_ret
     exact ⟨ret_bool (by rw [HFALSE.out, Bool.and_false]), hbw3⟩
  ·have HT : Hid ((wantB V1 n0 && wantB V2 n1 && wantB V3 n2) = true) := by unfold Hid; rw [q0 (by omega), q1 (by omega), q2 (by omega)]; rfl
   go_wp2_with fail
   go_ret
   exact ⟨ret_bool HT.out.symm, hbw3⟩
end Go.Proofs.YtnhdohednekhjaaGreatDoor
namespace Go.Proofs.YtnhdohednekhjaaGreatDoor
open Go.RowKit Go.Sort
end Go.Proofs.YtnhdohednekhjaaGreatDoor
namespace Go.Proofs.YtnhdohednekhjaaGreatDoor
open Go.RowKit Go.Sort
theorem SameOp_any (w : World) {cs cs' : Array Value} {x y : Int × List Int} (h : opT.Rd w cs.toList x) (h' : opT.Rd w cs'.toList y) :
  Calls Tryz.prog 50 #[.agg cs, .agg cs'] w fun e w' => e = .returned (.bool (eqB x y)) ∧ Below w.heap.size w w' := by
 obtain ⟨v, hv, hI, hx⟩ := pair_ex h
 obtain rfl := agg_of hv
 obtain ⟨v', hv', hI', hx'⟩ := pair_ex h'
 obtain rfl := agg_of hv'
 clear h hv h' hv'
 cases hn : (x.1 == y.1)
 ·go_enter Tryz.func50, Tryz.ntmps50
  go_wp2_with fail
  go_ret
  exact ⟨ret_bool (eqB_fst (by simpa using hn)).symm, (by repeat (first | exact Below.refl _ _ | exact bA | assumption | refine Below.setCell ?_ (by first | omega | (simp; try omega)) _ | refine Below.alloc ?_ (by first | omega | (simp; try omega)) _ | refine Below.drew ?_ | refine bDN ?_ | refine bthen ?_ (by assumption)))⟩
 have HN : Hid (x.1 = y.1) := by simpa [Hid] using hn
 cases hq : eqB x.2 y.2
 all_goals
  go_enter Tryz.func50, Tryz.ntmps50
  go_wp2_with fail
  refine (Equal_quiet _ (hx.below (by repeat (first | exact Below.refl _ _ | exact bA | assumption | refine Below.setCell ?_ (by first | omega | (simp; try omega)) _ | refine Below.alloc ?_ (by first | omega | (simp; try omega)) _ | refine Below.drew ?_ | refine bDN ?_ | refine bthen ?_ (by assumption)))) (hx'.below (by repeat (first | exact Below.refl _ _ | exact bA | assumption | refine Below.setCell ?_ (by first | omega | (simp; try omega)) _ | refine Below.alloc ?_ (by first | omega | (simp; try omega)) _ | refine Below.drew ?_ | refine bDN ?_ | refine bthen ?_ (by assumption))))).mono ?_
  rintro e w1 ⟨rfl, n, rfl⟩
  rw [hq]
  go_wp2_with fail
  go_ret
  exact ⟨ret_bool (eqB_snd HN.out hq).symm, (by repeat (first | exact Below.refl _ _ | exact bA | assumption | refine Below.setCell ?_ (by first | omega | (simp; try omega)) _ | refine Below.alloc ?_ (by first | omega | (simp; try omega)) _ | refine Below.drew ?_ | refine bDN ?_ | refine bthen ?_ (by assumption)))⟩
theorem dig2 (s k : Int) : ∃ x y, digL s k 2 = [x, y] := by
 match h : digL s k 2 with
 | [x, y] => exact ⟨x, y, rfl⟩
 | [] => have := digL_len (s := s) (idx := k) (n := 2); rw [h] at this; simp at this
 | [_] => have := digL_len (s := s) (idx := k) (n := 2); rw [h] at this; simp at this
 | _ :: _ :: _ :: _ => have := digL_len (s := s) (idx := k) (n := 2); rw [h] at this; simp at this
theorem dig3 (s k : Int) : ∃ x y z, digL s k 3 = [x, y, z] := by
 match h : digL s k 3 with
 | [x, y, z] => exact ⟨x, y, z, rfl⟩
 | [] => have := digL_len (s := s) (idx := k) (n := 3); rw [h] at this; simp at this
 | [_] => have := digL_len (s := s) (idx := k) (n := 3); rw [h] at this; simp at this
 | [_, _] => have := digL_len (s := s) (idx := k) (n := 3); rw [h] at this; simp at this
 | _ :: _ :: _ :: _ :: _ => have := digL_len (s := s) (idx := k) (n := 3); rw [h] at this; simp at this
/-- what the test says of a list -/
def ternL (s : Int) (f : Int × List Int) (W0 W1 W2 : Int → Int → Int) (l : List Int) : Bool :=
 wantB (opV s f.2 [l.getD 0 0, l.getD 0 0, l.getD 1 0]) (W0 (l.getD 0 0) (l.getD 1 0)) && wantB (opV s f.2 [l.getD 0 0, l.getD 1 0, l.getD 0 0]) (W1 (l.getD 0 0) (l.getD 1 0)) && wantB (opV s f.2 [l.getD 1 0, l.getD 0 0, l.getD 0 0]) (W2 (l.getD 0 0) (l.getD 1 0))
def ternP (s : Int) (f : Int × List Int) (W0 W1 W2 : Int → Int → Int) : Prop := f.1 = 3 ∧ ∀ l : List Int, l.length = 2 → inS s l → ternL s f W0 W1 W2 l = true
theorem want_in {v n : Int} (h : 0 ≤ n) : wantB v n = true ↔ v = n := by
 have : decide (0 ≤ n) = true := by simpa using h
 unfold wantB
 rw [this]
 simp
theorem tern_third {s : Int} {f : Int × List Int} {W : Int → Int → Int} {W1 : Int → Int → Int} {mid : Bool} (hW : ∀ x y, 0 ≤ x → 0 ≤ y → 0 ≤ W x y) (h1 : mid = true → W1 = W) (h2 : mid = false → W1 = fun _ _ => -1) : ternP s f W W1 W ↔ thirdP s f W mid := by
 unfold ternP thirdP
 constructor
 ·rintro ⟨h3, h⟩
  refine ⟨h3, fun x y hx hy => ?_⟩
  have h4 := h [x, y] rfl (in2 hx hy)
  unfold ternL at h4
  simp only [List.getD_cons_zero, List.getD_cons_succ, Bool.and_eq_true] at h4
  obtain ⟨⟨h5, h6⟩, h7⟩ := h4
  have hw := hW x y hx.1 hy.1
  refine ⟨(want_in hw).1 h5, (want_in hw).1 h7, fun hm => ?_⟩
  rw [h1 hm] at h6
  exact (want_in hw).1 h6
 ·rintro ⟨h3, h⟩
  refine ⟨h3, fun l hl hin => ?_⟩
  match l, hl with
  | [x, y], _ =>
   have hx := hin x (by simp)
   have hy := hin y (by simp)
   obtain ⟨h5, h6, h7⟩ := h x y hx hy
   have hw := hW x y hx.1 hy.1
   unfold ternL
   simp only [List.getD_cons_zero, List.getD_cons_succ, Bool.and_eq_true]
   refine ⟨⟨(want_in hw).2 h5, ?_⟩, (want_in hw).2 h6⟩
   cases mid
   ·rw [h2 rfl]; simp [wantB]
   ·rw [h1 rfl]; exact (want_in hw).2 (h7 rfl)
set_option maxHeartbeats 1600000 in
set_option maxRecDepth 100000 in
theorem isTernary_any (w : World) {cs : Array Value} {f : Int × List Int} (h : opT.Rd w cs.toList f) {s : Int} (hf : opOk s f) {g : Nat} {W0 W1 W2 : Int → Int → Int} (eg : ∀ args w, (callFunc g args).run Tryz.prog w = .ok (.enter g args) w) (hG : Tells3 Tryz.prog g W0 W1 W2) :
  Calls Tryz.prog 202 #[.int .i64 s, .agg cs, .func (.func g) #[] #[]] w fun e w' => e = .returned (.bool (tb (ternP s f W0 W1 W2))) ∧ Below w.heap.size w w' := by
 obtain ⟨hs, har, hN, hfe, -, -⟩ := op_dims hf
 obtain ⟨u2, hv2, hI, hx⟩ := pair_ex h
 obtain rfl := agg_of hv2
 have H := Lib.hid h
 have HF := Lib.hid hf
 obtain ⟨N, hN2⟩ : ∃ N : Nat, s ^ 2 = (N : Int) := ⟨(s ^ 2).toNat, by have : 0 < s ^ 2 := Int.pow_pos (by omega); omega⟩
 have HN := Lib.hid hN2
 cases h3 : (f.1 == 3)
 ·have HT : Hid (tb (ternP s f W0 W1 W2) = false) := tb_false (fun hh => by rw [hh.1] at h3; exact absurd h3 (by decide))
  rw [HT.out]
  clear h hx hv2 hf hN hfe hG
  go_enter Tryz.func202, Tryz.ntmps202
  go_wp2_with fail
  go_ret
  exact ⟨rfl, (by repeat (first | exact Below.refl _ _ | exact bA | assumption | refine Below.setCell ?_ (by first | omega | (simp; try omega)) _ | refine Below.alloc ?_ (by first | omega | (simp; try omega)) _ | refine Below.drew ?_ | refine bDN ?_ | refine bthen ?_ (by assumption)))⟩
 ·have h33 : f.1 = 3 := by simpa using h3
  have HT : Hid (allK (fun k => ternL s f W0 W1 W2 (digL s (k : Int) 2)) N = tb (ternP s f W0 W1 W2)) := by
   unfold Hid
   rw [Bool.eq_iff_iff, allK_iff, tb_iff]
   unfold ternP
   rw [all_dig (P := fun l => ternL s f W0 W1 W2 l = true) hs.1 hN2]
   exact ⟨fun h => ⟨h33, h⟩, fun h => h.2⟩
  have HG := Lib.hid hG
  have H33 := Lib.hid h33
  clear h hx hv2 hf hN hfe hG h33
  go_enter Tryz.func202, Tryz.ntmps202
  go_wp2_with fail
  generalize hW : World.alloc (World.alloc (World.alloc w _) _) _ = W
  have hbW : Below w.heap.size w W := hW ▸ bthen bAA bA
  have hsW : w.heap.size + 3 ≤ W.heap.size := by rw [← hW]; simp
  have b0 : W.cell? ⟨w.heap.size, 0, none⟩ = some (.int .i64 s) := by rw [← hW]; simp [go_sem]
  have f0 : W.cell? ⟨w.heap.size + 1, 0, none⟩ = some (.int .i64 f.1) := by rw [← hW]; simp [go_sem]
  have f1 : W.cell? ⟨w.heap.size + 1, 1, none⟩ = some u2 := by rw [← hW]; simp [go_sem]
  have g0 : W.cell? ⟨w.heap.size + 1 + 1, 0, none⟩ = some (.func (.func g) #[] #[]) := by rw [← hW]; simp [go_sem]
  have HPT : Hid (opT.Pt W (.pointer (some ⟨w.heap.size + 1, 0, none⟩)) f) := pt_of2 (by omega) (H.out.below hbW) f0 f1
  clear hW f0 f1
  have hto : Hid (∀ W' u (k : Nat), Below W.heap.size W W' → k < N → intsT.Rd W' [u] (digL s k 2) → Calls Tryz.prog 235 (#[u] ++ #[.pointer (some ⟨w.heap.size + 1, 0, none⟩), .pointer (some ⟨w.heap.size, 0, none⟩), .pointer (some ⟨w.heap.size + 1 + 1, 0, none⟩)]) W' fun e w' => e = .returned (.bool ((fun l => ternL s f W0 W1 W2 l) (digL s k 2))) ∧ Below W'.heap.size W' w') := by
   intro W' u k hb _ hu
   obtain ⟨x, y, hxy⟩ := dig2 s k
   have hin := digL_in (s := s) (idx := (k : Int)) (n := 2) hs.1
   rw [hxy] at hu hin ⊢
   exact isTernary1_any W' hu ((cellB hb (by omega)).trans b0) (HPT.out.below hb) ((cellB hb (by omega)).trans g0) eg HG.out HF.out H33.out hin
  refine (allLists_any W hs (by omega) HN.out 235 _ (enters Tryz.func235 (by kernel_rfl) rfl) (fun l => ternL s f W0 W1 W2 l) hto).mono ?_
  rintro e w5 ⟨rfl, hb5⟩
  rw [HT.out]
  go_wp2_with fail
  go_ret
  exact ⟨rfl, bthen hbW hb5⟩
end Go.Proofs.YtnhdohednekhjaaGreatDoor
