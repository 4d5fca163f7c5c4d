/-
A region that draws its order and holds one alloc and one store into it besides loads and calls that make new memory: one account serves every order. The box's block is a ghost. No program is named here.
-/
import Derived.Test.YtccobadobklbpaaQAD
namespace Go.Proofs.Ytccobadobklbpaa
open Go.RowKit

/-- a predicate of a value, told which block is the box -/
abbrev OP := Option Nat → VP
inductive Tag | plain | alloc | store
  deriving DecidableEq

/-- all blocks but one are as before -/
structure Bx (b : Nat) (w w' : World) : Prop where
  os : w'.os = w.os
  tape : w'.tape = w.tape
  output : w'.output = w.output
  size : w.heap.size ≤ w'.heap.size
  block : ∀ k, k < w.heap.size → k ≠ b → w'.heap[k]? = w.heap[k]?
  cells : ∀ j, (∃ u, w.cell? ⟨b, j, none⟩ = some u) → ∃ u, w'.cell? ⟨b, j, none⟩ = some u
  frozen : ∀ j, w'.frozen? ⟨b, j, none⟩ = w.frozen? ⟨b, j, none⟩
theorem Bx.setCell (b o : Nat) (w : World) (u : Value) : Bx b w (w.setCell ⟨b, o, none⟩ u) :=
  ⟨rfl, rfl, rfl, by simp [World.setCell], fun k _ hk => Below.heap_setCell _ _ _ _ hk, fun _ ⟨_, h⟩ => cell?_setCell_some h, fun _ => World.frozen?_setCell _ _ _ _⟩
theorem Bx.trans {b : Nat} {w w' w'' : World} (h : Bx b w w') (k : Bx b w' w'') : Bx b w w'' :=
  ⟨k.os.trans h.os, k.tape.trans h.tape, k.output.trans h.output, Nat.le_trans h.size k.size, fun i hi hb => (k.block i (Nat.lt_of_lt_of_le hi h.size) hb).trans (h.block i hi hb), fun j hj => k.cells j (h.cells j hj), fun j => (k.frozen j).trans (h.frozen j)⟩
theorem Bx.refl (b : Nat) (w : World) : Bx b w w := ⟨rfl, rfl, rfl, Nat.le_refl _, fun _ _ _ => rfl, fun _ h => h, fun _ => rfl⟩

/-- what an operation of a kind may do -/
def StepT : Tag → Option Nat → World → Option Nat → World → Prop
  | .plain, o, w, o', w' => o' = o ∧ Below w.heap.size w w'
  | .alloc, _, w, o', w' => o' = some w.heap.size ∧ w.heap.size < w'.heap.size ∧ Below w.heap.size w w'
  | .store, o, w, o', w' => ∃ b, o = some b ∧ o' = some b ∧ Bx b w w'

def boxUpon (P : Program) (g : Tag) (o : Option Nat) (w : World) (Φ : OP) : Result Next → Prop
  | .ok (.value v) w' => ∃ o', StepT g o w o' w' ∧ Φ o' v w'
  | .ok .skip w' => ∃ o', StepT g o w o' w' ∧ Φ o' undef w'
  | .ok (.enter f args) w' => g = .plain ∧ Below w.heap.size w w' ∧ Calls P f args w' fun e w'' => ∃ v, e = .returned v ∧ Below w'.heap.size w' w'' ∧ Φ o v w''
  | _ => False

def writer2 : List Oper → List (Tag × OP) → Tmp → Option OP
  | o :: l, Φ :: Φs, t => if o.dst = some t then some Φ.2 else writer2 l Φs t
  | _, _, _ => none

def slotP2 (l : List Oper) (Φs : List (Tag × OP)) (a : Act) (t : Tmp) : OP := match writer2 l Φs t with
  | some Φ => Φ
  | none => fun _ v _ => v = a.eval (.tmp t)

def JAt2 (P : Program) (l : List Oper) (Φs : List (Tag × OP)) (a : Act) (w : World) (q : Oper) (Φ : Tag × OP) : Prop :=
  ∀ (a' : Act) (w' : World) (o : Option Nat), Below w.heap.size w w' → (∀ b, o = some b → w.heap.size ≤ b ∧ b < w'.heap.size) → (Φ.1 = .alloc → o = none) →
    (∀ t, readsB q t = true → slotP2 l Φs a t o (a'.eval (.tmp t)) w') → boxUpon P Φ.1 o w' Φ.2 ((execOp a'.eval q).run P w')

def JAll2 (P : Program) (l : List Oper) (Φs : List (Tag × OP)) (a : Act) (w : World) : List Oper → List (Tag × OP) → Prop
  | o :: r, Φ :: Φr => JAt2 P l Φs a w o Φ ∧ JAll2 P l Φs a w r Φr
  | [], [] => True
  | _, _ => False

def HAll2 (w : World) (b : Option Nat) : List Oper → List (Tag × OP) → List Value → Prop
  | _ :: l, Φ :: Φs, v :: vs => Φ.2 b v w ∧ HAll2 w b l Φs vs
  | [], [], [] => True
  | _, _, _ => False

/-- predicates that outlast new memory, and the box's being made -/
def StabO (Φ : OP) : Prop := (∀ o v w1 w2, Φ o v w1 → Below w1.heap.size w1 w2 → Φ o v w2) ∧ (∀ v w1 w2, Φ none v w1 → Below w1.heap.size w1 w2 → Φ (some w1.heap.size) v w2)
/-- .. and a store into the box -/
def StabS (Φ : OP) : Prop := ∀ b v w1 w2, Φ (some b) v w1 → Bx b w1 w2 → Φ (some b) v w2
def Indep (Φ : OP) : Prop := ∀ o v v' w, Φ o v w → Φ o v' w
def StG : Tag → OP → Prop
  | .store, Φ => StabO Φ ∧ Indep Φ
  | _, Φ => StabO Φ ∧ StabS Φ
def SAll2 : List (Tag × OP) → Prop
  | Φ :: Φs => StG Φ.1 Φ.2 ∧ SAll2 Φs
  | [] => True
theorem SAll2_mem : ∀ {Φs : List (Tag × OP)}, SAll2 Φs → ∀ Φ ∈ Φs, StG Φ.1 Φ.2
  | _ :: _, h, Φ, hm => by
    rcases List.mem_cons.1 hm with rfl | hm
    · exact h.1
    · exact SAll2_mem h.2 Φ hm
theorem StG.o {g : Tag} {Φ : OP} (h : StG g Φ) : StabO Φ := by cases g <;> exact h.1
theorem StG.s {g : Tag} {Φ : OP} (h : StG g Φ) (hg : g ≠ .store) : StabS Φ := by
  cases g
  · exact h.2
  · exact h.2
  · exact absurd rfl hg

def oneTag (g : Tag) : List Tag → Bool
  | [] => true
  | x :: r => if x = g then r.all (fun y => decide (y ≠ g)) else oneTag g r
theorem oneTag_spec {g : Tag} : ∀ {l : List Tag}, oneTag g l = true → ∀ i j : Nat, l[i]? = some g → l[j]? = some g → i = j
  | [], _, i, j, h, _ => by simp at h
  | x :: r, h, i, j, hi, hj => by
    unfold oneTag at h
    split at h
    · rename_i hx
      have hno : ∀ k : Nat, r[k]? = some g → False := fun k hk => by
        have := List.all_eq_true.1 h g (List.mem_of_getElem? hk)
        simp at this
      match i, j with
      | 0, 0 => rfl
      | 0, j + 1 => exact (hno j (by simpa using hj)).elim
      | i + 1, _ => exact (hno i (by simpa using hi)).elim
    · rename_i hx
      match i, j with
      | 0, _ => simp at hi; exact absurd hi hx
      | _ + 1, 0 => simp at hj; exact absurd hj hx
      | i + 1, j + 1 => rw [oneTag_spec h i j (by simpa using hi) (by simpa using hj)]
/-- what holds of the region's form -/
def boxB (l : List Oper) (gs : List Tag) (n : Nat) : Bool :=
  looseB l n && oneTag .alloc gs && oneTag .store gs && (l.zip gs).all (fun x => x.1.dst.isSome || decide (x.2 = .store))

theorem writer2_some {l : List Oper} {Φs : List (Tag × OP)} {t : Tmp} {Φ : OP} (h : writer2 l Φs t = some Φ) : ∃ (j : Nat) (o : Oper) (g : Tag), l[j]? = some o ∧ o.dst = some t ∧ Φs[j]? = some (g, Φ) := by
  induction l generalizing Φs with
  | nil => simp [writer2] at h
  | cons o l ih =>
    cases Φs with
    | nil => simp [writer2] at h
    | cons Φ' Φs =>
      simp only [writer2] at h
      split at h
      · rename_i hd
        obtain rfl : Φ'.2 = Φ := by simpa using h
        exact ⟨0, o, Φ'.1, rfl, hd, rfl⟩
      · obtain ⟨j, o', g, h1, h2, h3⟩ := ih h
        exact ⟨j + 1, o', g, h1, h2, h3⟩
theorem writer2_none {l : List Oper} {Φs : List (Tag × OP)} {t : Tmp} (hl : l.length = Φs.length) (h : writer2 l Φs t = none) : ∀ (j : Nat) (o : Oper), l[j]? = some o → o.dst ≠ some t := by
  induction l generalizing Φs with
  | nil => intro j o h; simp at h
  | cons q l ih =>
    cases Φs with
    | nil => simp at hl
    | cons Φ' Φs =>
      simp only [writer2] at h
      split at h
      · cases h
      · rename_i hd
        intro j o ho
        match j with
        | 0 => simp at ho; subst ho; exact hd
        | j + 1 => exact ih (by simpa using hl) h j o (by simpa using ho)
theorem JAll2_len {P : Program} {l : List Oper} {Φs : List (Tag × OP)} {a : Act} {w : World} : ∀ {r : List Oper} {Φr : List (Tag × OP)}, JAll2 P l Φs a w r Φr → r.length = Φr.length
  | [], [], _ => rfl
  | _ :: _, _ :: _, h => by simp [JAll2_len h.2]
  | [], _ :: _, h => by cases h
  | _ :: _, [], h => by cases h
theorem JAll2_get {P : Program} {l : List Oper} {Φs : List (Tag × OP)} {a : Act} {w : World} : ∀ {r : List Oper} {Φr : List (Tag × OP)}, JAll2 P l Φs a w r Φr → ∀ {i : Nat} {o : Oper} {Φ : Tag × OP}, r[i]? = some o → Φr[i]? = some Φ → JAt2 P l Φs a w o Φ
  | [], _, _, i, o, Φ, h, _ => by simp at h
  | q :: r, [], h, _, _, _, _, _ => by cases h
  | q :: r, Φ' :: Φr, hj, i, o, Φ, h, h' => by
    match i with
    | 0 => simp at h h'; subst h; subst h'; exact hj.1
    | i + 1 => exact JAll2_get hj.2 (by simpa using h) (by simpa using h')

/-- the value that an operation left, undef if it names no slot -/
def valD (a : Act) (q : Oper) : Value := match q.dst with | some d => a.eval (.tmp d) | none => undef

/-- where the region stands -/
structure BInv (l : List Oper) (Φs : List (Tag × OP)) (a : Act) (w : World) (listed : Array Bool) (a' : Act) (w' : World) (b : Option Nat) : Prop where
  below : Below w.heap.size w w'
  size : listed.size = l.length
  defers : a'.defers = a.defers
  tsize : a'.tmps.size = a.tmps.size
  old : ∀ t, (∀ (j : Nat) (o : Oper), l[j]? = some o → o.dst = some t → listed.getD j false = false) → a'.tmps[t]? = a.tmps[t]?
  new : ∀ (j : Nat) (o : Oper) (Φ : Tag × OP), l[j]? = some o → Φs[j]? = some Φ → listed.getD j false = true → Φ.2 b (valD a' o) w'
  box : ∀ k, b = some k → w.heap.size ≤ k ∧ k < w'.heap.size
  nob : ∀ (j : Nat) (Φ : Tag × OP), Φs[j]? = some Φ → Φ.1 = .alloc → listed.getD j false = false → b = none

theorem getD_set_self {listed : Array Bool} {i : Nat} (h : i < listed.size) : (listed.setIfInBounds i true).getD i false = true := by
  rw [Array.getD_eq_getD_getElem?, Array.getElem?_setIfInBounds_self_of_lt h]; rfl

theorem tag_get {Φs : List (Tag × OP)} {i : Nat} {Φ : Tag × OP} (h : Φs[i]? = some Φ) : (Φs.map Prod.fst)[i]? = some Φ.1 := by simp [h]

theorem boxB_spec {l : List Oper} {gs : List Tag} {n : Nat} (h : boxB l gs n = true) :
    looseB l n = true ∧ (∀ i j : Nat, gs[i]? = some Tag.alloc → gs[j]? = some Tag.alloc → i = j) ∧ (∀ i j : Nat, gs[i]? = some Tag.store → gs[j]? = some Tag.store → i = j) ∧
      ∀ (i : Nat) (q : Oper) (g : Tag), l[i]? = some q → gs[i]? = some g → q.dst = none → g = .store := by
  simp only [boxB, Bool.and_eq_true] at h
  obtain ⟨⟨⟨h1, h2⟩, h3⟩, h4⟩ := h
  refine ⟨h1, oneTag_spec h2, oneTag_spec h3, fun i q g hq hg hd => ?_⟩
  have hm : (q, g) ∈ l.zip gs := by
    apply List.mem_of_getElem? (i := i)
    rw [List.getElem?_zip_eq_some]
    exact ⟨hq, hg⟩
  have := List.all_eq_true.1 h4 _ hm
  simpa [hd] using this

theorem StepT.below {g : Tag} {w w' w'' : World} {o o' : Option Nat} (h : StepT g o w' o' w'') (hb : Below w.heap.size w w') (hk : ∀ k, o = some k → w.heap.size ≤ k ∧ k < w'.heap.size) : Below w.heap.size w w'' ∧ ∀ k, o' = some k → w.heap.size ≤ k ∧ k < w''.heap.size := by
  cases g with
  | plain =>
    obtain ⟨rfl, h⟩ := h
    exact ⟨bthen hb h, fun k he => ⟨(hk k he).1, Nat.lt_of_lt_of_le (hk k he).2 h.size⟩⟩
  | alloc =>
    obtain ⟨rfl, hs, h⟩ := h
    exact ⟨bthen hb h, fun k he => by simp at he; subst he; exact ⟨hb.size, hs⟩⟩
  | store =>
    obtain ⟨b, rfl, rfl, h⟩ := h
    have := hk b rfl
    exact ⟨hb.trans ⟨h.os, h.tape, h.output, h.size, fun k hlt => h.block k (Nat.lt_of_lt_of_le hlt hb.size) (by omega)⟩, fun k he => by simp at he; subst he; exact ⟨this.1, Nat.lt_of_lt_of_le this.2 h.size⟩⟩

theorem BInv.step {l : List Oper} {Φs : List (Tag × OP)} {a : Act} {w : World} {listed : Array Bool} {a' : Act} {w' w'' : World} {b b' : Option Nat} (hB : boxB l (Φs.map Prod.fst) a.tmps.size = true)
    (hst : SAll2 Φs) (h : BInv l Φs a w listed a' w' b) {i : Nat} {o : Oper} {Φ : Tag × OP} (hi : l[i]? = some o) (hΦ : Φs[i]? = some Φ) (hni : listed.getD i true = false) {v : Value} (hs : StepT Φ.1 b w' b' w'') (hv : Φ.2 b' v w'') :
    BInv l Φs a w (listed.setIfInBounds i true) (a'.put o.dst v) w'' b' := by
  have hlt : i < listed.size := by rw [h.size]; exact (List.getElem?_eq_some_iff.1 hi).1
  obtain ⟨hL, hone, hone', hdst⟩ := boxB_spec hB
  obtain ⟨_, _, hdn, hall⟩ := looseB_spec hL hi
  obtain ⟨hb1, hb2⟩ := hs.below h.below h.box
  refine ⟨hb1, by simpa using h.size, put_defers.trans h.defers, put_size.trans h.tsize, fun t ht => ?_, fun j q Ψ hj hΨ hl => ?_, hb2, fun j Ψ hΨ hg hl => ?_⟩
  · have hne : o.dst ≠ some t := fun e => by
      have := ht i o hi e
      rw [getD_set_self hlt] at this
      cases this
    rw [put_other hne]
    refine h.old t fun j q hj hd => ?_
    have := ht j q hj hd
    by_cases e : i = j
    · subst e; rw [getD_set_self hlt] at this; cases this
    · rwa [getD_set_ne false e] at this
  · by_cases e : i = j
    · subst e
      rw [hi] at hj
      cases hj
      rw [hΦ] at hΨ
      cases hΨ
      cases hd : o.dst with
      | none =>
        have hg := hdst i o Φ.1 hi (tag_get hΦ) hd
        have hS := SAll2_mem hst Φ (List.mem_of_getElem? hΦ)
        rw [hg] at hS
        exact hS.2 _ v _ _ hv
      | some d =>
        simp only [valD, hd]
        rw [eval_put_self (by rw [h.tsize]; exact hdn d hd)]
        exact hv
    · rw [getD_set_ne false e] at hl
      have hnew := h.new j q Ψ hj hΨ hl
      have hval : valD (a'.put o.dst v) q = valD a' q := by
        cases hd : q.dst with
        | none => simp [valD, hd]
        | some d => simp only [valD, hd]; exact eval_put_ne ((hall j q d hj hd).2 e)
      rw [hval]
      have hS := SAll2_mem hst Ψ (List.mem_of_getElem? hΨ)
      cases hg : Φ.1 with
      | plain =>
        rw [hg] at hs
        obtain ⟨rfl, hs⟩ := hs
        exact hS.o.1 _ _ _ _ hnew hs
      | alloc =>
        have hbn : b = none := h.nob i Φ hΦ hg (by
          rw [Array.getD_eq_getD_getElem?, Array.getElem?_eq_getElem hlt] at hni ⊢
          exact hni)
        rw [hg] at hs
        obtain ⟨rfl, _, hs⟩ := hs
        subst hbn
        exact hS.o.2 _ _ _ hnew hs
      | store =>
        rw [hg] at hs
        obtain ⟨k, rfl, rfl, hs⟩ := hs
        refine hS.s (fun hg' => e (hone' i j ?_ ?_)) _ _ _ _ hnew hs
        · rw [← hg]; exact tag_get hΦ
        · rw [← hg']; exact tag_get hΨ
  · by_cases e : i = j
    · subst e; rw [getD_set_self hlt] at hl; cases hl
    · rw [getD_set_ne false e] at hl
      have hbn := h.nob j Ψ hΨ hg hl
      cases hg2 : Φ.1 with
      | plain => rw [hg2] at hs; obtain ⟨rfl, _⟩ := hs; exact hbn
      | alloc =>
        exfalso
        refine e (hone i j ?_ ?_)
        · rw [← hg2]; exact tag_get hΦ
        · rw [← hg]; exact tag_get hΨ
      | store => rw [hg2] at hs; obtain ⟨k, rfl, _⟩ := hs; cases hbn

theorem HAll2_of {w : World} {b : Option Nat} {f : Oper → Value} : ∀ {l : List Oper} {Φs : List (Tag × OP)}, l.length = Φs.length → (∀ (j : Nat) (o : Oper) (Φ : Tag × OP), l[j]? = some o → Φs[j]? = some Φ → Φ.2 b (f o) w) → HAll2 w b l Φs (l.map f)
  | [], [], _, _ => trivial
  | o :: l, Φ :: Φs, hl, h => ⟨h 0 o Φ rfl rfl, HAll2_of (by simpa using hl) fun j q Ψ hj hΨ => h (j + 1) q Ψ (by simpa using hj) (by simpa using hΨ)⟩
  | [], _ :: _, hl, _ => by simp at hl
  | _ :: _, [], hl, _ => by simp at hl

theorem wpAny_box {P : Program} {l : List Oper} {Φs : List (Tag × OP)} {a : Act} {w : World} {Q : Exit → Act → World → Prop} (hB : boxB l (Φs.map Prod.fst) a.tmps.size = true)
    (hst : SAll2 Φs) (hJ : JAll2 P l Φs a w l Φs)
    (hQ : ∀ vs w' b, Below w.heap.size w w' → (∀ k, b = some k → w.heap.size ≤ k ∧ k < w'.heap.size) → HAll2 w' b l Φs vs → Q .normal (putAll a l vs) w') :
    ∀ (fuel : Nat) (listed : Array Bool) (a' : Act) (w' : World) (b : Option Nat), (∃ s : List Nat, s.Nodup ∧ (∀ i ∈ s, i < l.length ∧ listed.getD i true = false) ∧ (∀ i, i < l.length → listed.getD i true = false → i ∈ s) ∧ s.length ≤ fuel) → BInv l Φs a w listed a' w' b → wpAny P .any l.toArray Q fuel listed a' w' := by
  have hlen := JAll2_len hJ
  have hBL := (boxB_spec hB).1
  have fin : ∀ (listed : Array Bool) (a' : Act) (w' : World) (b : Option Nat), BInv l Φs a w listed a' w' b → Region.ready .any l.toArray listed = [] → Q .normal a' w' := by
    intro listed a' w' b hI hr
    have hall := ready_nil hBL hI.size hr
    have hH : HAll2 w' b l Φs (l.map (valD a')) := HAll2_of hlen fun j o Φ hj hΦ =>
      hI.new j o Φ hj hΦ (hall j (List.getElem?_eq_some_iff.1 hj).1)
    have ha : a' = putAll a l (l.map (valD a')) := by
      obtain ⟨p1, p2, p3⟩ := putAll_frame (l := l) (vs := l.map (valD a')) (a := a)
      have e1 : a'.tmps = (putAll a l (l.map (valD a'))).tmps := by
        apply Array.ext_getElem?
        intro t
        by_cases ht : ∃ (j : Nat) (o : Oper), l[j]? = some o ∧ o.dst = some t
        · obtain ⟨j, o, hj, hd⟩ := ht
          obtain ⟨_, _, hdn, _⟩ := looseB_spec hBL hj
          have hlt := hdn t hd
          rw [putAll_get (valD a') hj hd hlt (fun i q hne hq => ((looseB_spec hBL hq).2.2.2 j o t hj hd).2 hne)]
          have hlt' : t < a'.tmps.size := by rw [hI.tsize]; exact hlt
          simp [valD, hd, Act.eval, Array.getElem?_eq_getElem hlt']
        · rw [p3 t (fun o ho hd => ?_)]
          · exact hI.old t fun j o hj hd => absurd ⟨j, o, hj, hd⟩ ht
          · obtain ⟨j, hj⟩ := List.getElem?_of_mem ho
            exact ht ⟨j, o, hj, hd⟩
      have e2 : a'.defers = (putAll a l (l.map (valD a'))).defers := hI.defers.trans p2.symm
      cases a'
      generalize putAll a l (l.map (valD _)) = q at e1 e2
      cases q
      simp only at e1 e2
      rw [e1, e2]
    rw [ha]
    exact hQ _ _ _ hI.below hI.box hH
  intro fuel
  induction fuel with
  | zero =>
    intro listed a' w' b ⟨s, _, _, hs2, hs3⟩ hI
    have hr : Region.ready .any l.toArray listed = [] := by
      rw [List.eq_nil_iff_forall_not_mem]
      intro i hi
      obtain ⟨h1, o, ho, _⟩ := mem_ready.1 hi
      have hlt : i < l.length := by simpa using (Array.getElem?_eq_some_iff.1 ho).1
      have := hs2 i hlt h1
      obtain rfl : s = [] := List.eq_nil_of_length_eq_zero (by omega)
      cases this
    exact ⟨hr, fin _ _ _ _ hI hr⟩
  | succ fuel ih =>
    intro listed a' w' b ⟨s, hs0, hs1, hs2, hs3⟩ hI
    refine ⟨fin _ _ _ _ hI, fun i hi => ?_⟩
    obtain ⟨h1, o, ho, hdeps⟩ := mem_ready.1 hi
    have hlt : i < l.length := by simpa using (Array.getElem?_eq_some_iff.1 ho).1
    have ho' : l[i]? = some o := by simpa using ho
    obtain ⟨Φ, hΦ⟩ : ∃ Φ, Φs[i]? = some Φ := ⟨_, List.getElem?_eq_getElem (by omega)⟩
    obtain ⟨hg, _, _, hall⟩ := looseB_spec hBL ho'
    have hJi : JAt2 P l Φs a w o Φ := JAll2_get hJ ho' hΦ
    have hlsz : i < listed.size := by rw [hI.size]; exact hlt
    have hj := hJi a' w' b hI.below hI.box (fun hga => hI.nob i Φ hΦ hga (by
        rw [Array.getD_eq_getD_getElem?, Array.getElem?_eq_getElem hlsz] at h1 ⊢
        exact h1)) (fun t ht0 => by
      have ht : Operand.tmp t ∈ o.op.operands.toList := by
        unfold readsB at ht0
        obtain ⟨x, hx, he⟩ := List.any_eq_true.1 ht0
        cases x <;> simp at he
        subst he
        exact hx
      unfold slotP2
      cases hwr : writer2 l Φs t with
      | some Ψ =>
        obtain ⟨j, q, g, hj, hd, hΨ⟩ := writer2_some hwr
        obtain ⟨e, he, hon, hbind⟩ := (hall j q t hj hd).1 ht
        have := hI.new j q (g, Ψ) hj hΨ (by rw [← hon]; exact hdeps e he hbind)
        simpa [valD, hd] using this
      | none =>
        have hno := writer2_none hlen hwr
        have := hI.old t fun j q hj hd => absurd hd (hno j q hj)
        simp [Act.eval, this])
    have hnext : ∀ v w'' b', StepT Φ.1 b w' b' w'' → Φ.2 b' v w'' → wpAny P .any l.toArray Q fuel (listed.setIfInBounds i true) (a'.put o.dst v) w'' := by
      intro v w'' b' hs hv
      refine ih _ _ _ _ ⟨s.erase i, hs0.erase i, fun j hj => ?_, fun j hj hl => ?_, ?_⟩ (hI.step hB hst ho' hΦ h1 hs hv)
      · have hj' := List.mem_of_mem_erase hj
        have hne : j ≠ i := fun e => by subst e; exact (hs0.not_mem_erase) hj
        exact ⟨(hs1 j hj').1, by rw [getD_set_ne true (Ne.symm hne)]; exact (hs1 j hj').2⟩
      · have hne : i ≠ j := fun e => by
          subst e
          rw [Array.getD_eq_getD_getElem?, Array.getElem?_setIfInBounds_self_of_lt hlsz] at hl
          cases hl
        rw [getD_set_ne true hne] at hl
        exact (List.mem_erase_of_ne (Ne.symm hne)).2 (hs2 j hj hl)
      · rw [List.length_erase_of_mem (hs2 i hlt h1)]; omega
    unfold wpOp
    rw [ho]
    simp only [Region.wanted, hg, if_true]
    left
    unfold Oper.wp
    generalize (execOp a'.eval o).run P w' = r at hj
    cases r with
    | ok n w1 =>
      cases n with
      | value v => exact hnext v w1 hj.choose hj.choose_spec.1 hj.choose_spec.2
      | skip => exact hnext undef w1 hj.choose hj.choose_spec.1 hj.choose_spec.2
      | enter f args =>
        refine hj.2.2.mono fun e w2 ⟨v, he, hb2, hv⟩ => ?_
        subst he
        refine hnext v w2 b ?_ hv
        rw [hj.1]
        exact ⟨rfl, bthen hj.2.1 hb2⟩
      | _ => exact hj.elim
    | halt x w1 => exact hj.elim

theorem wp_region_box {P : Program} {id : Nat} {l : List Oper} {a : Act} {w : World} {Q : Exit → Act → World → Prop} (Φs : List (Tag × OP)) (hm : P.follows .mixedOrders = true) (hB : boxB l (Φs.map Prod.fst) a.tmps.size = true)
    (hst : SAll2 Φs) (hJ : JAll2 P l Φs a w l Φs)
    (hQ : ∀ vs w' b, Below w.heap.size w w' → (∀ k, b = some k → w.heap.size ≤ k ∧ k < w'.heap.size) → HAll2 w' b l Φs vs → Q .normal (putAll a l vs) w') : (Code.region id l.toArray true).wp P Q a w := by
  refine wp_region_any hm (wpAny_box hB hst hJ hQ _ _ _ _ none ⟨List.range l.length, List.nodup_range, fun i hi => ⟨by simpa using hi, ?_⟩, fun i hi _ => by simpa using hi, by simp⟩ ⟨⟨rfl, rfl, rfl, Nat.le_refl _, fun _ _ => rfl⟩, by simp, rfl, rfl, fun _ _ => rfl, fun j o Φ hj _ hl => ?_, fun k hk => (by simp at hk), fun _ _ _ _ _ => rfl⟩)
  · simp at hi
    simp [hi]
  · have hjl := (List.getElem?_eq_some_iff.1 hj).1
    simp [hjl] at hl

/-! the usual predicates -/
def exO (c : Value) : OP := fun _ v _ => v = c
/-- reads so, not through the box -/
def rdAO {α : Type} (E : Ty α) (x : α) : OP := fun o v W => ∃ (cs : List Value) (fp : List Nat), v = .agg cs.toArray ∧ E.rd W cs x fp ∧ ∀ k ∈ fp, o ≠ some k
def rdSO {α : Type} (E : Ty α) (x : α) : OP := fun o v W => ∃ fp, E.rd W [v] x fp ∧ ∀ k ∈ fp, o ≠ some k
/-- new memory that reads so -/
def frAO {α : Type} (E : Ty α) (base : Nat) (x : α) : OP := fun o v W => ∃ (cs : List Value) (fp : List Nat), v = .agg cs.toArray ∧ E.rd W cs x fp ∧ fp.Nodup ∧ (∀ k ∈ fp, base ≤ k) ∧ Unf W fp ∧ ∀ k ∈ fp, o ≠ some k
/-- a struct and a number: the results of a call -/
def frTO {α : Type} (E : Ty α) (base : Nat) (x : α) (n : Value) : OP := fun o v W => ∃ cs : List Value, v = .tuple #[.agg cs.toArray, n] ∧ frAO E base x o (.agg cs.toArray) W
def boxO (n : Nat) : OP := fun o v W => ∃ b, o = some b ∧ v = .pointer (some ⟨b, 0, none⟩) ∧ b < W.heap.size ∧ ∀ j, j < n → (∃ u, W.cell? ⟨b, j, none⟩ = some u) ∧ W.frozen? ⟨b, j, none⟩ = false
/-- the box holds it -/
def heldO {α : Type} (E : Ty α) (base : Nat) (x : α) : OP := fun o _ W => ∃ (b : Nat) (cs : List Value) (fp : List Nat), o = some b ∧ E.rd W cs x fp ∧ fp.Nodup ∧ (∀ k ∈ fp, base ≤ k) ∧ Unf W fp ∧ (∀ k ∈ fp, some b ≠ some k) ∧ ∀ j (hj : j < cs.length), W.cell? ⟨b, j, none⟩ = some cs[j]
theorem some_ne {a : Nat} {fp : List Nat} (h : ∀ k ∈ fp, k < a) : ∀ k ∈ fp, (some a : Option Nat) ≠ some k := fun k hk e => by have := h k hk; simp at e; omega
theorem Bx.same {b : Nat} {w w' : World} {fp : List Nat} (h : Bx b w w') (hl : ∀ k ∈ fp, k < w.heap.size) (hn : ∀ k ∈ fp, (some b : Option Nat) ≠ some k) : Same fp w w' := fun k hk => h.block k (hl k hk) fun e => hn k hk (by rw [e])
theorem st_exO {c : Value} : StG .plain (exO c) := ⟨⟨fun _ _ _ _ h _ => h, fun _ _ _ h _ => h⟩, fun _ _ _ _ h _ => h⟩
theorem st_rdAO {α : Type} {E : Ty α} {x : α} : StG .plain (rdAO E x) :=
  ⟨⟨fun _ _ _ _ ⟨cs, fp, h1, h2, h3⟩ hb => ⟨cs, fp, h1, E.same h2 (Same.below hb (E.lt h2)), h3⟩, fun _ _ _ ⟨cs, fp, h1, h2, _⟩ hb => ⟨cs, fp, h1, E.same h2 (Same.below hb (E.lt h2)), some_ne (E.lt h2)⟩⟩,
    fun _ _ _ _ ⟨cs, fp, h1, h2, h3⟩ hb => ⟨cs, fp, h1, E.same h2 (hb.same (E.lt h2) h3), h3⟩⟩
theorem st_rdSO {α : Type} {E : Ty α} {x : α} : StG .plain (rdSO E x) :=
  ⟨⟨fun _ _ _ _ ⟨fp, h2, h3⟩ hb => ⟨fp, E.same h2 (Same.below hb (E.lt h2)), h3⟩, fun _ _ _ ⟨fp, h2, _⟩ hb => ⟨fp, E.same h2 (Same.below hb (E.lt h2)), some_ne (E.lt h2)⟩⟩,
    fun _ _ _ _ ⟨fp, h2, h3⟩ hb => ⟨fp, E.same h2 (hb.same (E.lt h2) h3), h3⟩⟩
theorem st_frAO {α : Type} {E : Ty α} {base : Nat} {x : α} : StG .plain (frAO E base x) :=
  ⟨⟨fun _ _ _ _ ⟨cs, fp, h1, h2, h4, h5, h6, h3⟩ hb => ⟨cs, fp, h1, E.same h2 (Same.below hb (E.lt h2)), h4, h5, h6.same (Same.below hb (E.lt h2)), h3⟩,
    fun _ _ _ ⟨cs, fp, h1, h2, h4, h5, h6, _⟩ hb => ⟨cs, fp, h1, E.same h2 (Same.below hb (E.lt h2)), h4, h5, h6.same (Same.below hb (E.lt h2)), some_ne (E.lt h2)⟩⟩,
    fun _ _ _ _ ⟨cs, fp, h1, h2, h4, h5, h6, h3⟩ hb => ⟨cs, fp, h1, E.same h2 (hb.same (E.lt h2) h3), h4, h5, h6.same (hb.same (E.lt h2) h3), h3⟩⟩
theorem st_frTO {α : Type} {E : Ty α} {base : Nat} {x : α} {n : Value} : StG .plain (frTO E base x n) :=
  ⟨⟨fun _ _ _ _ ⟨cs, h1, h2⟩ hb => ⟨cs, h1, st_frAO.1.1 _ _ _ _ h2 hb⟩, fun _ _ _ ⟨cs, h1, h2⟩ hb => ⟨cs, h1, st_frAO.1.2 _ _ _ h2 hb⟩⟩, fun _ _ _ _ ⟨cs, h1, h2⟩ hb => ⟨cs, h1, st_frAO.2 _ _ _ _ h2 hb⟩⟩
theorem st_boxO {n : Nat} : StG .alloc (boxO n) :=
  ⟨⟨fun _ _ _ _ ⟨b, h1, h2, h3, h4⟩ hb => ⟨b, h1, h2, Nat.lt_of_lt_of_le h3 hb.size, fun j hj => ⟨let ⟨u, hu⟩ := (h4 j hj).1; ⟨u, (hb.cell (p := ⟨b, j, none⟩) h3).trans hu⟩, (hb.frozen (p := ⟨b, j, none⟩) h3).trans (h4 j hj).2⟩⟩, fun _ _ _ ⟨b, h1, _⟩ _ => by cases h1⟩,
    fun b' _ _ _ ⟨b, h1, h2, h3, h4⟩ hb => by
      obtain rfl : b' = b := by simpa using h1
      exact ⟨_, rfl, h2, Nat.lt_of_lt_of_le h3 hb.size, fun j hj => ⟨hb.cells j (h4 j hj).1, (hb.frozen j).trans (h4 j hj).2⟩⟩⟩
theorem st_heldO {α : Type} {E : Ty α} {base : Nat} {x : α} : StG .store (heldO E base x) :=
  ⟨⟨fun _ _ _ _ ⟨b, cs, fp, h1, h2, h4, h5, h6, h3, h7⟩ hb => ⟨b, cs, fp, h1, E.same h2 (Same.below hb (E.lt h2)), h4, h5, h6.same (Same.below hb (E.lt h2)), h3, fun j hj => (hb.cell (p := ⟨b, j, none⟩) (cell_lt (h7 j hj))).trans (h7 j hj)⟩, fun _ _ _ ⟨b, _, _, h1, _⟩ _ => by cases h1⟩, fun _ _ _ _ h => h⟩
theorem HAll2_cons {w : World} {b : Option Nat} {o : Oper} {l : List Oper} {Φ : Tag × OP} {Φs : List (Tag × OP)} {vs : List Value} (h : HAll2 w b (o :: l) (Φ :: Φs) vs) : ∃ v r, vs = v :: r ∧ Φ.2 b v w ∧ HAll2 w b l Φs r := by
  cases vs with
  | nil => cases h
  | cons v r => exact ⟨v, r, rfl, h.1, h.2⟩
theorem HAll2_nil {w : World} {b : Option Nat} {vs : List Value} (h : HAll2 w b [] [] vs) : vs = [] := by
  cases vs with
  | nil => rfl
  | cons v r => cases h
theorem slot_w2 {l : List Oper} {Φs : List (Tag × OP)} {a a' : Act} {w' : World} {o : Oper} {b : Option Nat} (hd : ∀ t, readsB o t = true → slotP2 l Φs a t b (a'.eval (.tmp t)) w') (t : Tmp) (Φ : OP) (hr : readsB o t = true) (hw : writer2 l Φs t = some Φ) : Φ b (a'.eval (.tmp t)) w' := by
  have h := hd t hr
  unfold slotP2 at h
  rw [hw] at h
  exact h
theorem slot_o2 {l : List Oper} {Φs : List (Tag × OP)} {a a' : Act} {w' : World} {o : Oper} {b : Option Nat} (hd : ∀ t, readsB o t = true → slotP2 l Φs a t b (a'.eval (.tmp t)) w') (t : Tmp) (hr : readsB o t = true) (hw : writer2 l Φs t = none) : a'.eval (.tmp t) = a.eval (.tmp t) := by
  have h := hd t hr
  unfold slotP2 at h
  rw [hw] at h
  exact h
theorem rdAO_mk {α : Type} {E : Ty α} {x : α} {W : World} {cs : List Value} {o : Option Nat} {B L : Nat} (hf : E.Fr B W cs x) (hbo : ∀ k, o = some k → L ≤ k ∧ k < B) : rdAO E x o (.agg cs.toArray) W :=
  let ⟨fp, h1, _, h3, _⟩ := hf; ⟨cs, fp, rfl, h1, fun k hk e => by have := hbo k e; have := h3 k hk; omega⟩
theorem rdSO_mk {α : Type} {E : Ty α} {x : α} {W : World} {u : Value} {o : Option Nat} {B L : Nat} (hf : E.Fr B W [u] x) (hbo : ∀ k, o = some k → L ≤ k ∧ k < B) : rdSO E x o u W :=
  let ⟨fp, h1, _, h3, _⟩ := hf; ⟨fp, h1, fun k hk e => by have := hbo k e; have := h3 k hk; omega⟩
theorem rdSO_val {α : Type} {E : Ty α} {x : List α} {W : World} {u : Value} {o : Option Nat} (h : rdSO (Ty.slice E) x o u W) : ∃ ad cap, u = .slice ad x.length cap := let ⟨fp, h, _⟩ := h; rd_slice ⟨fp, h⟩
theorem rdSO.rd {α : Type} {E : Ty α} {x : α} {W : World} {u : Value} {o : Option Nat} (h : rdSO E x o u W) : E.Rd W [u] x := let ⟨fp, h, _⟩ := h; ⟨fp, h⟩
theorem frTO_mk {α : Type} {E : Ty α} {x : α} {W : World} {cs : List Value} {o : Option Nat} {B L base : Nat} {n : Value} (hB : base ≤ B) (hf : E.Fr B W cs x) (hbo : ∀ k, o = some k → L ≤ k ∧ k < B) : frTO E base x n o (.tuple #[.agg cs.toArray, n]) W :=
  let ⟨fp, h1, h2, h3, h4⟩ := hf; ⟨cs, rfl, cs, fp, rfl, h1, h2, fun k hk => Nat.le_trans hB (h3 k hk), h4, fun k hk e => by have := hbo k e; have := h3 k hk; omega⟩
theorem exO_eqB {α : Type} [DecidableEq α] {x : α} {o : Option Nat} {w : World} : exO (.bool true) o (.bool (eqB x x)) w := congrArg Value.bool (eqB_true rfl)
theorem set3_bx {b : Nat} {w : World} {x y z : Value} : Bx b w (((w.setCell ⟨b, 0, none⟩ x).setCell ⟨b, 1, none⟩ y).setCell ⟨b, 2, none⟩ z) := ((Bx.setCell _ _ _ _).trans (Bx.setCell _ _ _ _)).trans (Bx.setCell _ _ _ _)
theorem set2_bx {b : Nat} {w : World} {x y : Value} : Bx b w ((w.setCell ⟨b, 0, none⟩ x).setCell ⟨b, 1, none⟩ y) := (Bx.setCell _ _ _ _).trans (Bx.setCell _ _ _ _)
theorem held3 {α : Type} {E : Ty α} {base : Nat} {x : α} {b : Nat} {w : World} {v0 v1 v2 y0 y1 y2 : Value} (h0 : w.cell? ⟨b, 0, none⟩ = some y0) (h1 : w.cell? ⟨b, 1, none⟩ = some y1) (h2 : w.cell? ⟨b, 2, none⟩ = some y2) {fp : List Nat} (hr : E.rd w [v0, v1, v2] x fp)
    (hn : fp.Nodup) (hb : ∀ k ∈ fp, base ≤ k) (hu : Unf w fp) (ho : ∀ k ∈ fp, (some b : Option Nat) ≠ some k) (v : Value) :
    ∃ o', StepT .store (some b) w o' (((w.setCell ⟨b, 0, none⟩ v0).setCell ⟨b, 1, none⟩ v1).setCell ⟨b, 2, none⟩ v2) ∧ heldO E base x o' v (((w.setCell ⟨b, 0, none⟩ v0).setCell ⟨b, 1, none⟩ v1).setCell ⟨b, 2, none⟩ v2) := by
  have hs := set3_bx (b := b) (w := w) (x := v0) (y := v1) (z := v2)
  have e1 : (w.setCell ⟨b, 0, none⟩ v0).cell? ⟨b, 1, none⟩ = some y1 := (World.cell?_setCell_other _ _ _ _ (by simp)).trans h1
  have e2 : ((w.setCell ⟨b, 0, none⟩ v0).setCell ⟨b, 1, none⟩ v1).cell? ⟨b, 2, none⟩ = some y2 := (World.cell?_setCell_other _ _ _ _ (by simp)).trans ((World.cell?_setCell_other _ _ _ _ (by simp)).trans h2)
  refine ⟨some b, ⟨b, rfl, rfl, hs⟩, b, [v0, v1, v2], fp, rfl, E.same hr (hs.same (E.lt hr) ho), hn, hb, hu.same (hs.same (E.lt hr) ho), ho, fun j hj => ?_⟩
  rcases (show j = 0 ∨ j = 1 ∨ j = 2 by simp at hj; omega) with rfl | rfl | rfl
  · exact (World.cell?_setCell_other _ _ _ _ (by simp)).trans ((World.cell?_setCell_other _ _ _ _ (by simp)).trans (World.cell?_setCell_same _ _ _ h0))
  · exact (World.cell?_setCell_other _ _ _ _ (by simp)).trans (World.cell?_setCell_same _ _ _ e1)
  · exact World.cell?_setCell_same _ _ _ e2
theorem held2 {α : Type} {E : Ty α} {base : Nat} {x : α} {b : Nat} {w : World} {v0 v1 y0 y1 : Value} (h0 : w.cell? ⟨b, 0, none⟩ = some y0) (h1 : w.cell? ⟨b, 1, none⟩ = some y1) {fp : List Nat} (hr : E.rd w [v0, v1] x fp)
    (hn : fp.Nodup) (hb : ∀ k ∈ fp, base ≤ k) (hu : Unf w fp) (ho : ∀ k ∈ fp, (some b : Option Nat) ≠ some k) (v : Value) :
    ∃ o', StepT .store (some b) w o' ((w.setCell ⟨b, 0, none⟩ v0).setCell ⟨b, 1, none⟩ v1) ∧ heldO E base x o' v ((w.setCell ⟨b, 0, none⟩ v0).setCell ⟨b, 1, none⟩ v1) := by
  have hs := set2_bx (b := b) (w := w) (x := v0) (y := v1)
  have e1 : (w.setCell ⟨b, 0, none⟩ v0).cell? ⟨b, 1, none⟩ = some y1 := (World.cell?_setCell_other _ _ _ _ (by simp)).trans h1
  refine ⟨some b, ⟨b, rfl, rfl, hs⟩, b, [v0, v1], fp, rfl, E.same hr (hs.same (E.lt hr) ho), hn, hb, hu.same (hs.same (E.lt hr) ho), ho, fun j hj => ?_⟩
  rcases (show j = 0 ∨ j = 1 by simp at hj; omega) with rfl | rfl
  · exact (World.cell?_setCell_other _ _ _ _ (by simp)).trans (World.cell?_setCell_same _ _ _ h0)
  · exact World.cell?_setCell_same _ _ _ e1
theorem box3 {w : World} {x y z : Value} {T : TypeId} : ∀ j, j < 3 → (∃ u, (w.alloc (.cells #[x, y, z] T)).cell? ⟨w.heap.size, j, none⟩ = some u) ∧ (w.alloc (.cells #[x, y, z] T)).frozen? ⟨w.heap.size, j, none⟩ = false := fun j hj => by
  rcases (show j = 0 ∨ j = 1 ∨ j = 2 by omega) with rfl | rfl | rfl <;> exact ⟨by simp, by simp⟩
theorem box2n {w : World} {x y : Value} {T : TypeId} : ∀ j, j < 2 → (∃ u, (w.alloc (.cells #[x, y] T)).cell? ⟨w.heap.size, j, none⟩ = some u) ∧ (w.alloc (.cells #[x, y] T)).frozen? ⟨w.heap.size, j, none⟩ = false := fun j hj => by
  rcases (show j = 0 ∨ j = 1 by omega) with rfl | rfl <;> exact ⟨by simp, by simp⟩
end Go.Proofs.Ytccobadobklbpaa
