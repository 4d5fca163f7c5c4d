/-
Contracts: an atom read from its word, the program's.
A region that draws its order and holds one alloc and one store into it besides loads and calls that make new memory: one account serves every order. The box's block is a ghost. No program is named here.
Plain mathematics of the search for operations: the program's recursion and the reference's steps answer alike. No program is named here.
Contracts: powers, indices of lists, lists of indices.
Contracts: the list of an index.
Contracts: valid operations.
Contracts: the tuple that an operation makes of tuples.
Contracts: the tuple that an operation makes of tuples, the reference's.
Rows whose elements point into older memory of the call's own: they read as new data. No program is named here.
Rows of truth values; rows of slices that lie in older memory; indices of lists are one to one.
Plain: a relation that has all tuples; what an operation makes of tuples of a relation; whether it keeps the relation.
Contracts: the set of a relation's tuples, the reference's.
Contracts: the set of a relation's tuples, filled.
Contracts: whether an operation breaks a relation, the reference's.
Contracts: atoms that hold; the greatest number of a row.
Plain mathematics: the lists of tuples that a finder of operations looks at; which are due at each place; whether they go.
Readings that avoid some blocks; a search's own data; what a listener keeps and touches; an append to a full row. No program is named here.
A row of rows whose elements point into older memory, built by appends to its own elements; what it reads as. No program is named here.
Memory of a search for operations: blocks that may be written, as a property; rows whose data lie in such blocks; a row cut short; rows of truth values; pointers to sets. No program is named here.
Contracts: a finder's data; whether what is due goes.
Contracts: the search for operations, told to a listener.
Contracts: a row of one number so many times (slices.Repeat, for the few lengths that occur).
Small lemmas of lists of tuples that both searches use. No program is named here.
 A finder's data while they are made: rows of lists that are due, each a row of its own, and a row of sets; what each append keeps. No program is named here.
A region that draws its order: what may come up when two or three may; two boxes that are filled last. No program is named here.
Contracts: a finder, made. (Its first region is printed by gen_nf.py.)
Contracts: the reference's search for operations: its data; the next value at a place; whether the conditions hold.
Contracts: the reference's next operation.
 Contracts: the reference's search for operations: the conditions of a relation.
Contracts: how many lists a finder looks at; the code of a template and an arity; polymorphisms counted, the program's.
 Contracts: the reference's search for operations, begun. (The orders of its region are printed by gen_bg.py.)
 Contracts: polymorphisms counted, the reference's; whether there is but one, both sides.
 Contracts: whether there is but one polymorphism of one place, both sides.
 Contracts: the operations that a search finds, listed: the program's listener, and the reference's.
Contracts: whether an operation breaks a relation, the program's.
Contracts: whether an operation is a polymorphism, both sides.
Contracts: the relation of all tuples for which something is so.
-/
import Derived.Test.YtmnjlhcbabhhlaaGreatDoorQAC
import Derived.Test.YtmnjlhcbabhhlaaGreatDoorQAB
import Derived.Test.YtmnjlhcbabhhlaaGreatDoorQAA
import Derived.Laws.OwnMore
import Derived.Deep.RegionHeldLaw
import Derived.Deep.CutRange
import Derived.Laws.CopyOwn
import Derived.Deep.LoopGhost
namespace Go.Proofs.YtmnjlhcbabhhlaaGreatDoor
open Go.RowKit Go.Sort
theorem rel_cases {l : List UInt8} : (Lib.hasPrefix l [82] = true ∧ relI l = numI (Lib.trimPrefix l [82]) ∧ (Lib.trimPrefix l [82]).length ≤ l.length) ∨ (Lib.hasPrefix l [82] = false ∧ relI l = -1) := by
 cases l with
 | nil => exact .inr ⟨rfl, rfl⟩
 | cons c r =>
  cases h : (c == 82)
  ·refine .inr ⟨?_, by simp only [relI, h]⟩
   have : ¬ (82 : UInt8) = c := fun e => by rw [← e] at h; exact absurd h (by decide)
   simp [Lib.hasPrefix, List.isPrefixOf, this]
  ·obtain rfl := beq_iff_eq.1 h
   refine .inl ⟨by simp [Lib.hasPrefix], ?_, ?_⟩
   ·simp [relI, Lib.trimPrefix, Lib.hasPrefix]
   ·simp [Lib.trimPrefix, Lib.hasPrefix]
theorem cut_le {l b : List UInt8} : (Lib.cut l b).1.length ≤ l.length ∧ (Lib.cut l b).2.1.length ≤ l.length := by
 unfold Lib.cut
 split
 ·exact ⟨by simp only [List.length_take]; omega, by simp only [List.length_drop]; omega⟩
 ·exact ⟨Nat.le_refl _, by simp⟩
theorem numI_I {t : List UInt8} : I64 (numI t) := by
 have h1 := numI_bd (t := t)
 have h2 : numI t ≤ 9223372036854775807 := by
  unfold numI
  split
  ·rename_i v hv
   have := parse_le hv
   split
   ·omega
   ·split <;> omega
  ·omega
 unfold I64
 omega
set_option maxHeartbeats 3200000 in
set_option maxRecDepth 100000 in
theorem readAtom_any (w : World) (hp : RfPre w) {t : List UInt8} (hl : t.length ≤ 100000) :
  Calls Tryz.prog 15 #[.string (bs t)] w (RetA opT w (atomI t)) := by
 have HP := Lib.hid hp
 have HAT : Hid (atomI t = (relI (Lib.cut t [58]).1, digR (Lib.cut t [58]).2.1)) := rfl
 have hc := cut_le (l := t) (b := [58])
 have hd : (bs t).data.toList = t := by simp [bs]
 have HD := Lib.hid hd
 clear hp hd
 go_enter Tryz.func15, Tryz.ntmps15
 go_wp2_with fail
 generalize hW : World.alloc w _ = X
 have hbX : Below w.heap.size w X := hW ▸ bA
 have hsX : w.heap.size + 1 ≤ X.heap.size := by rw [← hW]; simp
 have r0 : X.cell? ⟨w.heap.size, 0, none⟩ = some (.int .i64 0) := by rw [← hW]; simp [go_sem]
 have r1 : X.cell? ⟨w.heap.size, 1, none⟩ = some (.slice none 0 0) := by rw [← hW]; simp [go_sem]
 have q0 : X.frozen? ⟨w.heap.size, 0, none⟩ = false := by rw [← hW]; simp [go_sem]
 have q1 : X.frozen? ⟨w.heap.size, 1, none⟩ = false := by rw [← hW]; simp [go_sem]
 clear hW
 obtain ⟨m, hm⟩ := (HP.out.below hbX).len
 refine (Tryz.strings_Cut (bs t) ⟨#[58]⟩ m X (by rw [bs_size]; omega) hm).mono ?_
 rintro e w1 ⟨rfl, n, rfl⟩
 rw [HD.out, show (⟨#[58]⟩ : ByteArray).data.toList = [58] from rfl]
 have hb1 : Below X.heap.size X (X.drewN n) := (Quiet.drewN X n).below
 generalize X.drewN n = w1 at hb1 ⊢
 generalize (Lib.cut t [58]).2.2 = bb
 generalize (Lib.cut t [58]).2.1 = D at hc HAT ⊢
 generalize (Lib.cut t [58]).1 = R at hc HAT ⊢
 have hB1 := bthen hbX hb1
 have hz1 := hb1.size
 replace r0 := (cellB hb1 (by omega)).trans r0
 replace r1 := (cellB hb1 (by omega)).trans r1
 replace q0 := (frozenB hb1 (by omega)).trans q0
 replace q1 := (frozenB hb1 (by omega)).trans q1
 clear hm
 go_wp2_with fail
 refine (readDigits_any w1 (t := D) (by omega)).mono ?_
 rintro e w2 ⟨u, rfl, hf, hb2⟩
 obtain ⟨da, dc, rfl⟩ := fr_slice hf
 have HF := Lib.hid hf
 have hB2 := bthen hB1 hb2
 have hz2 := hb2.size
 replace r0 := (cellB hb2 (by omega)).trans r0
 replace r1 := (cellB hb2 (by omega)).trans r1
 replace q0 := (frozenB hb2 (by omega)).trans q0
 replace q1 := (frozenB hb2 (by omega)).trans q1
 clear hf
 go_wp2_with fail
 generalize hW : World.alloc w2 _ = w3
 have hb3 : Below w2.heap.size w2 w3 := hW ▸ bA
 have hs3 : w2.heap.size + 1 ≤ w3.heap.size := by rw [← hW]; simp
 have b0 : w3.cell? ⟨w2.heap.size, 0, none⟩ = some (.int .i64 (-1)) := by rw [← hW]; simp [go_sem]
 have b1 : w3.cell? ⟨w2.heap.size, 1, none⟩ = some (.slice da (digR D).length dc) := by rw [← hW]; simp [go_sem]
 have c0 : w3.frozen? ⟨w2.heap.size, 0, none⟩ = false := by rw [← hW]; simp [go_sem]
 clear hW
 have hB3 := bthen hB2 hb3
 have hz3 := hb3.size
 replace r0 := (cellB hb3 (by omega)).trans r0
 replace r1 := (cellB hb3 (by omega)).trans r1
 replace q0 := (frozenB hb3 (by omega)).trans q0
 replace q1 := (frozenB hb3 (by omega)).trans q1
 refine (Tryz.strings_CutPrefix ⟨R.toArray⟩ ⟨#[82]⟩ w3).mono ?_
 rintro e x3 ⟨rfl, hx3⟩
 obtain rfl : w3 = x3 := hx3.symm
 clear hx3
 rw [show (⟨R.toArray⟩ : ByteArray).data.toList = R by simp, show (⟨#[82]⟩ : ByteArray).data.toList = [82] from rfl]
 rcases rel_cases (l := R) with ⟨h1, h2, h3⟩ | ⟨h1, h2⟩
 ·rw [h1]
  have HR := Lib.hid h2
  clear h1 h2
  generalize Lib.trimPrefix R [82] = T at HR h3 ⊢
  go_wp2_with fail
  refine (readNumber_any w3 (HP.out.below hB3) (t := T) (by omega)).mono ?_
  rintro e w4 ⟨rfl, hb4⟩
  have hB4 := bthen hB3 hb4
  have hz4 := hb4.size
  replace r0 := (cellB hb4 (by omega)).trans r0
  replace r1 := (cellB hb4 (by omega)).trans r1
  replace b0 := (cellB hb4 (by omega)).trans b0
  replace b1 := (cellB hb4 (by omega)).trans b1
  replace q0 := (frozenB hb4 (by omega)).trans q0
  replace q1 := (frozenB hb4 (by omega)).trans q1
  replace c0 := (frozenB hb4 (by omega)).trans c0
  go_wp2_with fail
  have k0 : (w4.setCell ⟨w2.heap.size, 0, none⟩ (.int .i64 (numI T))).cell? ⟨w.heap.size, 0, none⟩ = some (.int .i64 0) := (World.cell?_setCell_other _ _ _ _ (by first | (simp; done) | (simp; omega))).trans r0
  have k1 : (w4.setCell ⟨w2.heap.size, 0, none⟩ (.int .i64 (numI T))).cell? ⟨w.heap.size, 1, none⟩ = some (.slice none 0 0) := (World.cell?_setCell_other _ _ _ _ (by first | (simp; done) | (simp; omega))).trans r1
  have hb5 : Below w2.heap.size w2 (w4.setCell ⟨w2.heap.size, 0, none⟩ (.int .i64 (numI T))) := (bthen hb3 hb4).setCell (Nat.le_refl _) _
  have hB5 : Below w.heap.size w (w4.setCell ⟨w2.heap.size, 0, none⟩ (.int .i64 (numI T))) := hB4.setCell (by first | (simp; done) | (simp; omega)) _
  generalize w4.setCell ⟨w2.heap.size, 0, none⟩ (.int .i64 (numI T)) = w5 at k0 k1 hb5 hB5 ⊢
  obtain ⟨g0, g1⟩ := set2_cells (x := .int .i64 (numI T)) (y := .slice da (digR D).length dc) k0 k1
  refine bodyPost_ret (v := .agg #[.int .i64 (numI T), .slice da (digR D).length dc]) (by simp [results, Tryz.results15, go_sem, g0, g1]) rfl ⟨[.int .i64 (numI T), .slice da (digR D).length dc], rfl, ?_, ?_⟩
  ·rw [HAT.out, HR.out]
   exact ((fr_set2 (fr_cons numI_I (HF.out.below hb5)) (by omega)).mono (by omega))
  ·exact (hB5.setCell (by simp) _).setCell (by simp) _
 ·rw [h1]
  have HR := Lib.hid h2
  clear h1 h2
  go_wp2_with fail
  obtain ⟨g0, g1⟩ := set2_cells (x := .int .i64 (-1)) (y := .slice da (digR D).length dc) r0 r1
  refine bodyPost_ret (v := .agg #[.int .i64 (-1), .slice da (digR D).length dc]) (by simp [results, Tryz.results15, go_sem, g0, g1]) rfl ⟨[.int .i64 (-1), .slice da (digR D).length dc], rfl, ?_, ?_⟩
  ·rw [HAT.out, HR.out]
   exact ((fr_set2 (fr_cons (I64.small (by omega) (by omega)) (HF.out.below hb3)) (by omega)).mono (by omega))
  ·exact (hB3.setCell (by simp) _).setCell (by simp) _
end Go.Proofs.YtmnjlhcbabhhlaaGreatDoor
namespace Go.Proofs.YtmnjlhcbabhhlaaGreatDoor
open Go.RowKit

/-- a predicate of a value, told which block is the box -/
abbrev OP := Option Nat → VP
inductive Tag | plain | alloc | store
 deriving DecidableEq

/-- all blocks but one are as before -/
structure Bx (b : Nat) (w w' : World) : Prop where
 os : w'.os = w.os
 tape : w'.tape = w.tape
 output : w'.output = w.output
 size : w.heap.size ≤ w'.heap.size
 block : ∀ k, k < w.heap.size → k ≠ b → w'.heap[k]? = w.heap[k]?
 cells : ∀ j, (∃ u, w.cell? ⟨b, j, none⟩ = some u) → ∃ u, w'.cell? ⟨b, j, none⟩ = some u
 frozen : ∀ j, w'.frozen? ⟨b, j, none⟩ = w.frozen? ⟨b, j, none⟩
theorem Bx.setCell (b o : Nat) (w : World) (u : Value) : Bx b w (w.setCell ⟨b, o, none⟩ u) :=
 ⟨rfl, rfl, rfl, by simp [World.setCell], fun k _ hk => Below.heap_setCell _ _ _ _ hk, fun _ ⟨_, h⟩ => cell?_setCell_some h, fun _ => World.frozen?_setCell _ _ _ _⟩
theorem Bx.trans {b : Nat} {w w' w'' : World} (h : Bx b w w') (k : Bx b w' w'') : Bx b w w'' :=
 ⟨k.os.trans h.os, k.tape.trans h.tape, k.output.trans h.output, Nat.le_trans h.size k.size, fun i hi hb => (k.block i (Nat.lt_of_lt_of_le hi h.size) hb).trans (h.block i hi hb), fun j hj => k.cells j (h.cells j hj), fun j => (k.frozen j).trans (h.frozen j)⟩
theorem Bx.refl (b : Nat) (w : World) : Bx b w w := ⟨rfl, rfl, rfl, Nat.le_refl _, fun _ _ _ => rfl, fun _ h => h, fun _ => rfl⟩

/-- what an operation of a kind may do -/
def StepT : Tag → Option Nat → World → Option Nat → World → Prop
 | .plain, o, w, o', w' => o' = o ∧ Below w.heap.size w w'
 | .alloc, _, w, o', w' => o' = some w.heap.size ∧ w.heap.size < w'.heap.size ∧ Below w.heap.size w w'
 | .store, o, w, o', w' => ∃ b, o = some b ∧ o' = some b ∧ Bx b w w'

def boxUpon (P : Program) (g : Tag) (o : Option Nat) (w : World) (Φ : OP) : Result Next → Prop
 | .ok (.value v) w' => ∃ o', StepT g o w o' w' ∧ Φ o' v w'
 | .ok .skip w' => ∃ o', StepT g o w o' w' ∧ Φ o' undef w'
 | .ok (.enter f args) w' => g = .plain ∧ Below w.heap.size w w' ∧ Calls P f args w' fun e w'' => ∃ v, e = .returned v ∧ Below w'.heap.size w' w'' ∧ Φ o v w''
 | _ => False

def writer2 : List Oper → List (Tag × OP) → Tmp → Option OP
 | o :: l, Φ :: Φs, t => if o.dst = some t then some Φ.2 else writer2 l Φs t
 | _, _, _ => none

def slotP2 (l : List Oper) (Φs : List (Tag × OP)) (a : Act) (t : Tmp) : OP := match writer2 l Φs t with
 | some Φ => Φ
 | none => fun _ v _ => v = a.eval (.tmp t)

def JAt2 (P : Program) (l : List Oper) (Φs : List (Tag × OP)) (a : Act) (w : World) (q : Oper) (Φ : Tag × OP) : Prop :=
 ∀ (a' : Act) (w' : World) (o : Option Nat), Below w.heap.size w w' → (∀ b, o = some b → w.heap.size ≤ b ∧ b < w'.heap.size) → (Φ.1 = .alloc → o = none) →
  (∀ t, readsB q t = true → slotP2 l Φs a t o (a'.eval (.tmp t)) w') → boxUpon P Φ.1 o w' Φ.2 ((execOp a'.eval q).run P w')

def JAll2 (P : Program) (l : List Oper) (Φs : List (Tag × OP)) (a : Act) (w : World) : List Oper → List (Tag × OP) → Prop
 | o :: r, Φ :: Φr => JAt2 P l Φs a w o Φ ∧ JAll2 P l Φs a w r Φr
 | [], [] => True
 | _, _ => False

def HAll2 (w : World) (b : Option Nat) : List Oper → List (Tag × OP) → List Value → Prop
 | _ :: l, Φ :: Φs, v :: vs => Φ.2 b v w ∧ HAll2 w b l Φs vs
 | [], [], [] => True
 | _, _, _ => False

/-- predicates that outlast new memory, and the box's being made -/
def StabO (Φ : OP) : Prop := (∀ o v w1 w2, Φ o v w1 → Below w1.heap.size w1 w2 → Φ o v w2) ∧ (∀ v w1 w2, Φ none v w1 → Below w1.heap.size w1 w2 → Φ (some w1.heap.size) v w2)
/-- .. and a store into the box -/
def StabS (Φ : OP) : Prop := ∀ b v w1 w2, Φ (some b) v w1 → Bx b w1 w2 → Φ (some b) v w2
def Indep (Φ : OP) : Prop := ∀ o v v' w, Φ o v w → Φ o v' w
def StG : Tag → OP → Prop
 | .store, Φ => StabO Φ ∧ Indep Φ
 | _, Φ => StabO Φ ∧ StabS Φ
def SAll2 : List (Tag × OP) → Prop
 | Φ :: Φs => StG Φ.1 Φ.2 ∧ SAll2 Φs
 | [] => True
theorem SAll2_mem : ∀ {Φs : List (Tag × OP)}, SAll2 Φs → ∀ Φ ∈ Φs, StG Φ.1 Φ.2
 | _ :: _, h, Φ, hm => by
  rcases List.mem_cons.1 hm with rfl | hm
  ·exact h.1
  ·exact SAll2_mem h.2 Φ hm
theorem StG.o {g : Tag} {Φ : OP} (h : StG g Φ) : StabO Φ := by cases g <;> exact h.1
theorem StG.s {g : Tag} {Φ : OP} (h : StG g Φ) (hg : g ≠ .store) : StabS Φ := by
 cases g
 ·exact h.2
 ·exact h.2
 ·exact absurd rfl hg

def oneTag (g : Tag) : List Tag → Bool
 | [] => true
 | x :: r => if x = g then r.all (fun y => decide (y ≠ g)) else oneTag g r
theorem oneTag_spec {g : Tag} : ∀ {l : List Tag}, oneTag g l = true → ∀ i j : Nat, l[i]? = some g → l[j]? = some g → i = j
 | [], _, i, j, h, _ => by simp at h
 | x :: r, h, i, j, hi, hj => by
  unfold oneTag at h
  split at h
  ·rename_i hx
   have hno : ∀ k : Nat, r[k]? = some g → False := fun k hk => by
    have := List.all_eq_true.1 h g (List.mem_of_getElem? hk)
    simp at this
   match i, j with
   | 0, 0 => rfl
   | 0, j + 1 => exact (hno j (by simpa using hj)).elim
   | i + 1, _ => exact (hno i (by simpa using hi)).elim
  ·rename_i hx
   match i, j with
   | 0, _ => simp at hi; exact absurd hi hx
   | _ + 1, 0 => simp at hj; exact absurd hj hx
   | i + 1, j + 1 => rw [oneTag_spec h i j (by simpa using hi) (by simpa using hj)]
/-- what holds of the region's form -/
def boxB (l : List Oper) (gs : List Tag) (n : Nat) : Bool :=
 looseB l n && oneTag .alloc gs && oneTag .store gs && (l.zip gs).all (fun x => x.1.dst.isSome || decide (x.2 = .store))

theorem writer2_some {l : List Oper} {Φs : List (Tag × OP)} {t : Tmp} {Φ : OP} (h : writer2 l Φs t = some Φ) : ∃ (j : Nat) (o : Oper) (g : Tag), l[j]? = some o ∧ o.dst = some t ∧ Φs[j]? = some (g, Φ) := by
 induction l generalizing Φs with
 | nil => simp [writer2] at h
 | cons o l ih =>
  cases Φs with
  | nil => simp [writer2] at h
  | cons Φ' Φs =>
   simp only [writer2] at h
   split at h
   ·rename_i hd
    obtain rfl : Φ'.2 = Φ := by simpa using h
    exact ⟨0, o, Φ'.1, rfl, hd, rfl⟩
   ·obtain ⟨j, o', g, h1, h2, h3⟩ := ih h
    exact ⟨j + 1, o', g, h1, h2, h3⟩
theorem writer2_none {l : List Oper} {Φs : List (Tag × OP)} {t : Tmp} (hl : l.length = Φs.length) (h : writer2 l Φs t = none) : ∀ (j : Nat) (o : Oper), l[j]? = some o → o.dst ≠ some t := by
 induction l generalizing Φs with
 | nil => intro j o h; simp at h
 | cons q l ih =>
  cases Φs with
  | nil => simp at hl
  | cons Φ' Φs =>
   simp only [writer2] at h
   split at h
   ·cases h
   ·rename_i hd
    intro j o ho
    match j with
    | 0 => simp at ho; subst ho; exact hd
    | j + 1 => exact ih (by simpa using hl) h j o (by simpa using ho)
theorem JAll2_len {P : Program} {l : List Oper} {Φs : List (Tag × OP)} {a : Act} {w : World} : ∀ {r : List Oper} {Φr : List (Tag × OP)}, JAll2 P l Φs a w r Φr → r.length = Φr.length
 | [], [], _ => rfl
 | _ :: _, _ :: _, h => by simp [JAll2_len h.2]
 | [], _ :: _, h => by cases h
 | _ :: _, [], h => by cases h
theorem JAll2_get {P : Program} {l : List Oper} {Φs : List (Tag × OP)} {a : Act} {w : World} : ∀ {r : List Oper} {Φr : List (Tag × OP)}, JAll2 P l Φs a w r Φr → ∀ {i : Nat} {o : Oper} {Φ : Tag × OP}, r[i]? = some o → Φr[i]? = some Φ → JAt2 P l Φs a w o Φ
 | [], _, _, i, o, Φ, h, _ => by simp at h
 | q :: r, [], h, _, _, _, _, _ => by cases h
 | q :: r, Φ' :: Φr, hj, i, o, Φ, h, h' => by
  match i with
  | 0 => simp at h h'; subst h; subst h'; exact hj.1
  | i + 1 => exact JAll2_get hj.2 (by simpa using h) (by simpa using h')

/-- the value that an operation left, undef if it names no slot -/
def valD (a : Act) (q : Oper) : Value := match q.dst with | some d => a.eval (.tmp d) | none => undef

/-- where the region stands -/
structure BInv (l : List Oper) (Φs : List (Tag × OP)) (a : Act) (w : World) (listed : Array Bool) (a' : Act) (w' : World) (b : Option Nat) : Prop where
 below : Below w.heap.size w w'
 size : listed.size = l.length
 defers : a'.defers = a.defers
 tsize : a'.tmps.size = a.tmps.size
 old : ∀ t, (∀ (j : Nat) (o : Oper), l[j]? = some o → o.dst = some t → listed.getD j false = false) → a'.tmps[t]? = a.tmps[t]?
 new : ∀ (j : Nat) (o : Oper) (Φ : Tag × OP), l[j]? = some o → Φs[j]? = some Φ → listed.getD j false = true → Φ.2 b (valD a' o) w'
 box : ∀ k, b = some k → w.heap.size ≤ k ∧ k < w'.heap.size
 nob : ∀ (j : Nat) (Φ : Tag × OP), Φs[j]? = some Φ → Φ.1 = .alloc → listed.getD j false = false → b = none

theorem getD_set_self {listed : Array Bool} {i : Nat} (h : i < listed.size) : (listed.setIfInBounds i true).getD i false = true := by
 rw [Array.getD_eq_getD_getElem?, Array.getElem?_setIfInBounds_self_of_lt h]; rfl

theorem tag_get {Φs : List (Tag × OP)} {i : Nat} {Φ : Tag × OP} (h : Φs[i]? = some Φ) : (Φs.map Prod.fst)[i]? = some Φ.1 := by simp [h]

theorem boxB_spec {l : List Oper} {gs : List Tag} {n : Nat} (h : boxB l gs n = true) :
  looseB l n = true ∧ (∀ i j : Nat, gs[i]? = some Tag.alloc → gs[j]? = some Tag.alloc → i = j) ∧ (∀ i j : Nat, gs[i]? = some Tag.store → gs[j]? = some Tag.store → i = j) ∧
   ∀ (i : Nat) (q : Oper) (g : Tag), l[i]? = some q → gs[i]? = some g → q.dst = none → g = .store := by
 simp only [boxB, Bool.and_eq_true] at h
 obtain ⟨⟨⟨h1, h2⟩, h3⟩, h4⟩ := h
 refine ⟨h1, oneTag_spec h2, oneTag_spec h3, fun i q g hq hg hd => ?_⟩
 have hm : (q, g) ∈ l.zip gs := by
  apply List.mem_of_getElem? (i := i)
  rw [List.getElem?_zip_eq_some]
  exact ⟨hq, hg⟩
 have := List.all_eq_true.1 h4 _ hm
 simpa [hd] using this

theorem StepT.below {g : Tag} {w w' w'' : World} {o o' : Option Nat} (h : StepT g o w' o' w'') (hb : Below w.heap.size w w') (hk : ∀ k, o = some k → w.heap.size ≤ k ∧ k < w'.heap.size) : Below w.heap.size w w'' ∧ ∀ k, o' = some k → w.heap.size ≤ k ∧ k < w''.heap.size := by
 cases g with
 | plain =>
  obtain ⟨rfl, h⟩ := h
  exact ⟨bthen hb h, fun k he => ⟨(hk k he).1, Nat.lt_of_lt_of_le (hk k he).2 h.size⟩⟩
 | alloc =>
  obtain ⟨rfl, hs, h⟩ := h
  exact ⟨bthen hb h, fun k he => by simp at he; subst he; exact ⟨hb.size, hs⟩⟩
 | store =>
  obtain ⟨b, rfl, rfl, h⟩ := h
  have := hk b rfl
  exact ⟨hb.trans ⟨h.os, h.tape, h.output, h.size, fun k hlt => h.block k (Nat.lt_of_lt_of_le hlt hb.size) (by omega)⟩, fun k he => by simp at he; subst he; exact ⟨this.1, Nat.lt_of_lt_of_le this.2 h.size⟩⟩

theorem BInv.step {l : List Oper} {Φs : List (Tag × OP)} {a : Act} {w : World} {listed : Array Bool} {a' : Act} {w' w'' : World} {b b' : Option Nat} (hB : boxB l (Φs.map Prod.fst) a.tmps.size = true)
  (hst : SAll2 Φs) (h : BInv l Φs a w listed a' w' b) {i : Nat} {o : Oper} {Φ : Tag × OP} (hi : l[i]? = some o) (hΦ : Φs[i]? = some Φ) (hni : listed.getD i true = false) {v : Value} (hs : StepT Φ.1 b w' b' w'') (hv : Φ.2 b' v w'') :
  BInv l Φs a w (listed.setIfInBounds i true) (a'.put o.dst v) w'' b' := by
 have hlt : i < listed.size := by rw [h.size]; exact (List.getElem?_eq_some_iff.1 hi).1
 obtain ⟨hL, hone, hone', hdst⟩ := boxB_spec hB
 obtain ⟨_, _, hdn, hall⟩ := looseB_spec hL hi
 obtain ⟨hb1, hb2⟩ := hs.below h.below h.box
 refine ⟨hb1, by simpa using h.size, put_defers.trans h.defers, put_size.trans h.tsize, fun t ht => ?_, fun j q Ψ hj hΨ hl => ?_, hb2, fun j Ψ hΨ hg hl => ?_⟩
 ·have hne : o.dst ≠ some t := fun e => by
   have := ht i o hi e
   rw [getD_set_self hlt] at this
   cases this
  rw [put_other hne]
  refine h.old t fun j q hj hd => ?_
  have := ht j q hj hd
  by_cases e : i = j
  ·subst e; rw [getD_set_self hlt] at this; cases this
  ·rwa [getD_set_ne false e] at this
 ·by_cases e : i = j
  ·subst e
   rw [hi] at hj
   cases hj
   rw [hΦ] at hΨ
   cases hΨ
   cases hd : o.dst with
   | none =>
    have hg := hdst i o Φ.1 hi (tag_get hΦ) hd
    have hS := SAll2_mem hst Φ (List.mem_of_getElem? hΦ)
    rw [hg] at hS
    exact hS.2 _ v _ _ hv
   | some d =>
    simp only [valD, hd]
    rw [eval_put_self (by rw [h.tsize]; exact hdn d hd)]
    exact hv
  ·rw [getD_set_ne false e] at hl
   have hnew := h.new j q Ψ hj hΨ hl
   have hval : valD (a'.put o.dst v) q = valD a' q := by
    cases hd : q.dst with
    | none => simp [valD, hd]
    | some d => simp only [valD, hd]; exact eval_put_ne ((hall j q d hj hd).2 e)
   rw [hval]
   have hS := SAll2_mem hst Ψ (List.mem_of_getElem? hΨ)
   cases hg : Φ.1 with
   | plain =>
    rw [hg] at hs
    obtain ⟨rfl, hs⟩ := hs
    exact hS.o.1 _ _ _ _ hnew hs
   | alloc =>
    have hbn : b = none := h.nob i Φ hΦ hg (by
     rw [Array.getD_eq_getD_getElem?, Array.getElem?_eq_getElem hlt] at hni ⊢
     exact hni)
    rw [hg] at hs
    obtain ⟨rfl, _, hs⟩ := hs
    subst hbn
    exact hS.o.2 _ _ _ hnew hs
   | store =>
    rw [hg] at hs
    obtain ⟨k, rfl, rfl, hs⟩ := hs
    refine hS.s (fun hg' => e (hone' i j ?_ ?_)) _ _ _ _ hnew hs
    ·rw [← hg]; exact tag_get hΦ
    ·rw [← hg']; exact tag_get hΨ
 ·by_cases e : i = j
  ·subst e; rw [getD_set_self hlt] at hl; cases hl
  ·rw [getD_set_ne false e] at hl
   have hbn := h.nob j Ψ hΨ hg hl
   cases hg2 : Φ.1 with
   | plain => rw [hg2] at hs; obtain ⟨rfl, _⟩ := hs; exact hbn
   | alloc =>
    exfalso
    refine e (hone i j ?_ ?_)
    ·rw [← hg2]; exact tag_get hΦ
    ·rw [← hg]; exact tag_get hΨ
   | store => rw [hg2] at hs; obtain ⟨k, rfl, _⟩ := hs; cases hbn

theorem HAll2_of {w : World} {b : Option Nat} {f : Oper → Value} : ∀ {l : List Oper} {Φs : List (Tag × OP)}, l.length = Φs.length → (∀ (j : Nat) (o : Oper) (Φ : Tag × OP), l[j]? = some o → Φs[j]? = some Φ → Φ.2 b (f o) w) → HAll2 w b l Φs (l.map f)
 | [], [], _, _ => trivial
 | o :: l, Φ :: Φs, hl, h => ⟨h 0 o Φ rfl rfl, HAll2_of (by simpa using hl) fun j q Ψ hj hΨ => h (j + 1) q Ψ (by simpa using hj) (by simpa using hΨ)⟩
 | [], _ :: _, hl, _ => by simp at hl
 | _ :: _, [], hl, _ => by simp at hl

theorem wpAny_box {P : Program} {l : List Oper} {Φs : List (Tag × OP)} {a : Act} {w : World} {Q : Exit → Act → World → Prop} (hB : boxB l (Φs.map Prod.fst) a.tmps.size = true)
  (hst : SAll2 Φs) (hJ : JAll2 P l Φs a w l Φs)
  (hQ : ∀ vs w' b, Below w.heap.size w w' → (∀ k, b = some k → w.heap.size ≤ k ∧ k < w'.heap.size) → HAll2 w' b l Φs vs → Q .normal (putAll a l vs) w') :
  ∀ (fuel : Nat) (listed : Array Bool) (a' : Act) (w' : World) (b : Option Nat), (∃ s : List Nat, s.Nodup ∧ (∀ i ∈ s, i < l.length ∧ listed.getD i true = false) ∧ (∀ i, i < l.length → listed.getD i true = false → i ∈ s) ∧ s.length ≤ fuel) → BInv l Φs a w listed a' w' b → wpAny P .any l.toArray Q fuel listed a' w' := by
 have hlen := JAll2_len hJ
 have hBL := (boxB_spec hB).1
 have fin : ∀ (listed : Array Bool) (a' : Act) (w' : World) (b : Option Nat), BInv l Φs a w listed a' w' b → Region.ready .any l.toArray listed = [] → Q .normal a' w' := by
  intro listed a' w' b hI hr
  have hall := ready_nil hBL hI.size hr
  have hH : HAll2 w' b l Φs (l.map (valD a')) := HAll2_of hlen fun j o Φ hj hΦ =>
   hI.new j o Φ hj hΦ (hall j (List.getElem?_eq_some_iff.1 hj).1)
  have ha : a' = putAll a l (l.map (valD a')) := by
   obtain ⟨p1, p2, p3⟩ := putAll_frame (l := l) (vs := l.map (valD a')) (a := a)
   have e1 : a'.tmps = (putAll a l (l.map (valD a'))).tmps := by
    apply Array.ext_getElem?
    intro t
    by_cases ht : ∃ (j : Nat) (o : Oper), l[j]? = some o ∧ o.dst = some t
    ·obtain ⟨j, o, hj, hd⟩ := ht
     obtain ⟨_, _, hdn, _⟩ := looseB_spec hBL hj
     have hlt := hdn t hd
     rw [putAll_get (valD a') hj hd hlt (fun i q hne hq => ((looseB_spec hBL hq).2.2.2 j o t hj hd).2 hne)]
     have hlt' : t < a'.tmps.size := by rw [hI.tsize]; exact hlt
     simp [valD, hd, Act.eval, Array.getElem?_eq_getElem hlt']
    ·rw [p3 t (fun o ho hd => ?_)]
     ·exact hI.old t fun j o hj hd => absurd ⟨j, o, hj, hd⟩ ht
     ·obtain ⟨j, hj⟩ := List.getElem?_of_mem ho
      exact ht ⟨j, o, hj, hd⟩
   have e2 : a'.defers = (putAll a l (l.map (valD a'))).defers := hI.defers.trans p2.symm
   cases a'
   generalize putAll a l (l.map (valD _)) = q at e1 e2
   cases q
   simp only at e1 e2
   rw [e1, e2]
  rw [ha]
  exact hQ _ _ _ hI.below hI.box hH
 intro fuel
 induction fuel with
 | zero =>
  intro listed a' w' b ⟨s, _, _, hs2, hs3⟩ hI
  have hr : Region.ready .any l.toArray listed = [] := by
   rw [List.eq_nil_iff_forall_not_mem]
   intro i hi
   obtain ⟨h1, o, ho, _⟩ := mem_ready.1 hi
   have hlt : i < l.length := by simpa using (Array.getElem?_eq_some_iff.1 ho).1
   have := hs2 i hlt h1
   obtain rfl : s = [] := List.eq_nil_of_length_eq_zero (by omega)
   cases this
  exact ⟨hr, fin _ _ _ _ hI hr⟩
 | succ fuel ih =>
  intro listed a' w' b ⟨s, hs0, hs1, hs2, hs3⟩ hI
  refine ⟨fin _ _ _ _ hI, fun i hi => ?_⟩
  obtain ⟨h1, o, ho, hdeps⟩ := mem_ready.1 hi
  have hlt : i < l.length := by simpa using (Array.getElem?_eq_some_iff.1 ho).1
  have ho' : l[i]? = some o := by simpa using ho
  obtain ⟨Φ, hΦ⟩ : ∃ Φ, Φs[i]? = some Φ := ⟨_, List.getElem?_eq_getElem (by omega)⟩
  obtain ⟨hg, _, _, hall⟩ := looseB_spec hBL ho'
  have hJi : JAt2 P l Φs a w o Φ := JAll2_get hJ ho' hΦ
  have hlsz : i < listed.size := by rw [hI.size]; exact hlt
  have hj := hJi a' w' b hI.below hI.box (fun hga => hI.nob i Φ hΦ hga (by
    rw [Array.getD_eq_getD_getElem?, Array.getElem?_eq_getElem hlsz] at h1 ⊢
    exact h1)) (fun t ht0 => by
   have ht : Operand.tmp t ∈ o.op.operands.toList := by
    unfold readsB at ht0
    obtain ⟨x, hx, he⟩ := List.any_eq_true.1 ht0
    cases x <;> simp at he
    subst he
    exact hx
   unfold slotP2
   cases hwr : writer2 l Φs t with
   | some Ψ =>
    obtain ⟨j, q, g, hj, hd, hΨ⟩ := writer2_some hwr
    obtain ⟨e, he, hon, hbind⟩ := (hall j q t hj hd).1 ht
    have := hI.new j q (g, Ψ) hj hΨ (by rw [← hon]; exact hdeps e he hbind)
    simpa [valD, hd] using this
   | none =>
    have hno := writer2_none hlen hwr
    have := hI.old t fun j q hj hd => absurd hd (hno j q hj)
    simp [Act.eval, this])
  have hnext : ∀ v w'' b', StepT Φ.1 b w' b' w'' → Φ.2 b' v w'' → wpAny P .any l.toArray Q fuel (listed.setIfInBounds i true) (a'.put o.dst v) w'' := by
   intro v w'' b' hs hv
   refine ih _ _ _ _ ⟨s.erase i, hs0.erase i, fun j hj => ?_, fun j hj hl => ?_, ?_⟩ (hI.step hB hst ho' hΦ h1 hs hv)
   ·have hj' := List.mem_of_mem_erase hj
    have hne : j ≠ i := fun e => by subst e; exact (hs0.not_mem_erase) hj
    exact ⟨(hs1 j hj').1, by rw [getD_set_ne true (Ne.symm hne)]; exact (hs1 j hj').2⟩
   ·have hne : i ≠ j := fun e => by
     subst e
     rw [Array.getD_eq_getD_getElem?, Array.getElem?_setIfInBounds_self_of_lt hlsz] at hl
     cases hl
    rw [getD_set_ne true hne] at hl
    exact (List.mem_erase_of_ne (Ne.symm hne)).2 (hs2 j hj hl)
   ·rw [List.length_erase_of_mem (hs2 i hlt h1)]; omega
  unfold wpOp
  rw [ho]
  simp only [Region.wanted, hg, if_true]
  left
  unfold Oper.wp
  generalize (execOp a'.eval o).run P w' = r at hj
  cases r with
  | ok n w1 =>
   cases n with
   | value v => exact hnext v w1 hj.choose hj.choose_spec.1 hj.choose_spec.2
   | skip => exact hnext undef w1 hj.choose hj.choose_spec.1 hj.choose_spec.2
   | enter f args =>
    refine hj.2.2.mono fun e w2 ⟨v, he, hb2, hv⟩ => ?_
    subst he
    refine hnext v w2 b ?_ hv
    rw [hj.1]
    exact ⟨rfl, bthen hj.2.1 hb2⟩
   | _ => exact hj.elim
  | halt x w1 => exact hj.elim

theorem wp_region_box {P : Program} {id : Nat} {l : List Oper} {a : Act} {w : World} {Q : Exit → Act → World → Prop} (Φs : List (Tag × OP)) (hm : P.follows .mixedOrders = true) (hB : boxB l (Φs.map Prod.fst) a.tmps.size = true)
  (hst : SAll2 Φs) (hJ : JAll2 P l Φs a w l Φs)
  (hQ : ∀ vs w' b, Below w.heap.size w w' → (∀ k, b = some k → w.heap.size ≤ k ∧ k < w'.heap.size) → HAll2 w' b l Φs vs → Q .normal (putAll a l vs) w') : (Code.region id l.toArray true).wp P Q a w := by
 refine wp_region_any hm (wpAny_box hB hst hJ hQ _ _ _ _ none ⟨List.range l.length, List.nodup_range, fun i hi => ⟨by simpa using hi, ?_⟩, fun i hi _ => by simpa using hi, by simp⟩ ⟨⟨rfl, rfl, rfl, Nat.le_refl _, fun _ _ => rfl⟩, by simp, rfl, rfl, fun _ _ => rfl, fun j o Φ hj _ hl => ?_, fun k hk => (by simp at hk), fun _ _ _ _ _ => rfl⟩)
 ·simp at hi
  simp [hi]
 ·have hjl := (List.getElem?_eq_some_iff.1 hj).1
  simp [hjl] at hl

/-! the usual predicates -/
def exO (c : Value) : OP := fun _ v _ => v = c
def rdSO {α : Type} (E : Ty α) (x : α) : OP := fun o v W => ∃ fp, E.rd W [v] x fp ∧ ∀ k ∈ fp, o ≠ some k
def boxO (n : Nat) : OP := fun o v W => ∃ b, o = some b ∧ v = .pointer (some ⟨b, 0, none⟩) ∧ b < W.heap.size ∧ ∀ j, j < n → (∃ u, W.cell? ⟨b, j, none⟩ = some u) ∧ W.frozen? ⟨b, j, none⟩ = false
/-- the box holds it -/
def heldO {α : Type} (E : Ty α) (base : Nat) (x : α) : OP := fun o _ W => ∃ (b : Nat) (cs : List Value) (fp : List Nat), o = some b ∧ E.rd W cs x fp ∧ fp.Nodup ∧ (∀ k ∈ fp, base ≤ k) ∧ Unf W fp ∧ (∀ k ∈ fp, some b ≠ some k) ∧ ∀ j (hj : j < cs.length), W.cell? ⟨b, j, none⟩ = some cs[j]
theorem Bx.same {b : Nat} {w w' : World} {fp : List Nat} (h : Bx b w w') (hl : ∀ k ∈ fp, k < w.heap.size) (hn : ∀ k ∈ fp, (some b : Option Nat) ≠ some k) : Same fp w w' := fun k hk => h.block k (hl k hk) fun e => hn k hk (by rw [e])
theorem st_exO {c : Value} : StG .plain (exO c) := ⟨⟨fun _ _ _ _ h _ => h, fun _ _ _ h _ => h⟩, fun _ _ _ _ h _ => h⟩
theorem st_boxO {n : Nat} : StG .alloc (boxO n) :=
 ⟨⟨fun _ _ _ _ ⟨b, h1, h2, h3, h4⟩ hb => ⟨b, h1, h2, Nat.lt_of_lt_of_le h3 hb.size, fun j hj => ⟨let ⟨u, hu⟩ := (h4 j hj).1; ⟨u, (hb.cell (p := ⟨b, j, none⟩) h3).trans hu⟩, (hb.frozen (p := ⟨b, j, none⟩) h3).trans (h4 j hj).2⟩⟩, fun _ _ _ ⟨b, h1, _⟩ _ => by cases h1⟩,
  fun b' _ _ _ ⟨b, h1, h2, h3, h4⟩ hb => by
   obtain rfl : b' = b := by simpa using h1
   exact ⟨_, rfl, h2, Nat.lt_of_lt_of_le h3 hb.size, fun j hj => ⟨hb.cells j (h4 j hj).1, (hb.frozen j).trans (h4 j hj).2⟩⟩⟩
theorem st_heldO {α : Type} {E : Ty α} {base : Nat} {x : α} : StG .store (heldO E base x) :=
 ⟨⟨fun _ _ _ _ ⟨b, cs, fp, h1, h2, h4, h5, h6, h3, h7⟩ hb => ⟨b, cs, fp, h1, E.same h2 (Same.below hb (E.lt h2)), h4, h5, h6.same (Same.below hb (E.lt h2)), h3, fun j hj => (hb.cell (p := ⟨b, j, none⟩) (cell_lt (h7 j hj))).trans (h7 j hj)⟩, fun _ _ _ ⟨b, _, _, h1, _⟩ _ => by cases h1⟩, fun _ _ _ _ h => h⟩
theorem HAll2_cons {w : World} {b : Option Nat} {o : Oper} {l : List Oper} {Φ : Tag × OP} {Φs : List (Tag × OP)} {vs : List Value} (h : HAll2 w b (o :: l) (Φ :: Φs) vs) : ∃ v r, vs = v :: r ∧ Φ.2 b v w ∧ HAll2 w b l Φs r := by
 cases vs with
 | nil => cases h
 | cons v r => exact ⟨v, r, rfl, h.1, h.2⟩
theorem HAll2_nil {w : World} {b : Option Nat} {vs : List Value} (h : HAll2 w b [] [] vs) : vs = [] := by
 cases vs with
 | nil => rfl
 | cons v r => cases h
theorem slot_w2 {l : List Oper} {Φs : List (Tag × OP)} {a a' : Act} {w' : World} {o : Oper} {b : Option Nat} (hd : ∀ t, readsB o t = true → slotP2 l Φs a t b (a'.eval (.tmp t)) w') (t : Tmp) (Φ : OP) (hr : readsB o t = true) (hw : writer2 l Φs t = some Φ) : Φ b (a'.eval (.tmp t)) w' := by
 have h := hd t hr
 unfold slotP2 at h
 rw [hw] at h
 exact h
theorem slot_o2 {l : List Oper} {Φs : List (Tag × OP)} {a a' : Act} {w' : World} {o : Oper} {b : Option Nat} (hd : ∀ t, readsB o t = true → slotP2 l Φs a t b (a'.eval (.tmp t)) w') (t : Tmp) (hr : readsB o t = true) (hw : writer2 l Φs t = none) : a'.eval (.tmp t) = a.eval (.tmp t) := by
 have h := hd t hr
 unfold slotP2 at h
 rw [hw] at h
 exact h
theorem rdSO.rd {α : Type} {E : Ty α} {x : α} {W : World} {u : Value} {o : Option Nat} (h : rdSO E x o u W) : E.Rd W [u] x := let ⟨fp, h, _⟩ := h; ⟨fp, h⟩
theorem set3_bx {b : Nat} {w : World} {x y z : Value} : Bx b w (((w.setCell ⟨b, 0, none⟩ x).setCell ⟨b, 1, none⟩ y).setCell ⟨b, 2, none⟩ z) := ((Bx.setCell _ _ _ _).trans (Bx.setCell _ _ _ _)).trans (Bx.setCell _ _ _ _)
theorem held3 {α : Type} {E : Ty α} {base : Nat} {x : α} {b : Nat} {w : World} {v0 v1 v2 y0 y1 y2 : Value} (h0 : w.cell? ⟨b, 0, none⟩ = some y0) (h1 : w.cell? ⟨b, 1, none⟩ = some y1) (h2 : w.cell? ⟨b, 2, none⟩ = some y2) {fp : List Nat} (hr : E.rd w [v0, v1, v2] x fp)
  (hn : fp.Nodup) (hb : ∀ k ∈ fp, base ≤ k) (hu : Unf w fp) (ho : ∀ k ∈ fp, (some b : Option Nat) ≠ some k) (v : Value) :
  ∃ o', StepT .store (some b) w o' (((w.setCell ⟨b, 0, none⟩ v0).setCell ⟨b, 1, none⟩ v1).setCell ⟨b, 2, none⟩ v2) ∧ heldO E base x o' v (((w.setCell ⟨b, 0, none⟩ v0).setCell ⟨b, 1, none⟩ v1).setCell ⟨b, 2, none⟩ v2) := by
 have hs := set3_bx (b := b) (w := w) (x := v0) (y := v1) (z := v2)
 have e1 : (w.setCell ⟨b, 0, none⟩ v0).cell? ⟨b, 1, none⟩ = some y1 := (World.cell?_setCell_other _ _ _ _ (by simp)).trans h1
 have e2 : ((w.setCell ⟨b, 0, none⟩ v0).setCell ⟨b, 1, none⟩ v1).cell? ⟨b, 2, none⟩ = some y2 := (World.cell?_setCell_other _ _ _ _ (by simp)).trans ((World.cell?_setCell_other _ _ _ _ (by simp)).trans h2)
 refine ⟨some b, ⟨b, rfl, rfl, hs⟩, b, [v0, v1, v2], fp, rfl, E.same hr (hs.same (E.lt hr) ho), hn, hb, hu.same (hs.same (E.lt hr) ho), ho, fun j hj => ?_⟩
 rcases (show j = 0 ∨ j = 1 ∨ j = 2 by simp at hj; omega) with rfl | rfl | rfl
 ·exact (World.cell?_setCell_other _ _ _ _ (by simp)).trans ((World.cell?_setCell_other _ _ _ _ (by simp)).trans (World.cell?_setCell_same _ _ _ h0))
 ·exact (World.cell?_setCell_other _ _ _ _ (by simp)).trans (World.cell?_setCell_same _ _ _ e1)
 ·exact World.cell?_setCell_same _ _ _ e2
theorem box3 {w : World} {x y z : Value} {T : TypeId} : ∀ j, j < 3 → (∃ u, (w.alloc (.cells #[x, y, z] T)).cell? ⟨w.heap.size, j, none⟩ = some u) ∧ (w.alloc (.cells #[x, y, z] T)).frozen? ⟨w.heap.size, j, none⟩ = false := fun j hj => by
 rcases (show j = 0 ∨ j = 1 ∨ j = 2 by omega) with rfl | rfl | rfl <;> exact ⟨by simp, by simp⟩
end Go.Proofs.YtmnjlhcbabhhlaaGreatDoor
namespace Go.Proofs.YtmnjlhcbabhhlaaGreatDoor
/-- a code, how many steps, what has been told -/
abbrev FR := Int × Nat × List (List Int)
section
variable {s : Nat} {okT : List Int → Bool} {fx : List Int} {yc : List (List Int) → Int} {m : Nat} {vals : List Int} {r : FR} {rec : List Int → FR → FR} {a : Nat}
section
variable {N d : Nat} {pre : List Int} {cur : Int}
end
end
end Go.Proofs.YtmnjlhcbabhhlaaGreatDoor
namespace Go.Proofs.YtmnjlhcbabhhlaaGreatDoor
open Go.RowKit Go.Sort
theorem pow_nn {s : Int} (h : 0 ≤ s) : ∀ k : Nat, 0 ≤ s ^ k
 | 0 => by rw [Int.pow_zero]; decide
 | k + 1 => by rw [Int.pow_succ]; exact Int.mul_nonneg (pow_nn h k) h
/-- a list's index in the order of lists -/
def idxL (s : Int) : Int → List Int → Int
 | acc, [] => acc
 | acc, a :: r => idxL s (acc * s + a) r
theorem idxL_append (s acc : Int) : ∀ (xs ys : List Int), idxL s acc (xs ++ ys) = idxL s (idxL s acc xs) ys := by
 intro xs
 induction xs generalizing acc with
 | nil => intro ys; rfl
 | cons a r ih => intro ys; exact ih _ ys
theorem idxL_take {s : Int} {xs : List Int} {k : Nat} (h : k < xs.length) : idxL s 0 (xs.take (k + 1)) = idxL s 0 (xs.take k) * s + xs[k] := by
 rw [List.take_succ_eq_append_getElem h, idxL_append]
 rfl
end Go.Proofs.YtmnjlhcbabhhlaaGreatDoor
namespace Go.Proofs.YtmnjlhcbabhhlaaGreatDoor
open Go.RowKit Go.Sort
/-- a row of numbers of the call's own, made and then written at places -/
def IR (e base : Nat) (w : World) (g n cap : Nat) (L : List Int) : Prop := L.length = n ∧ (∀ a ∈ L, I64 a) ∧ base ≤ g ∧ w.ownsRow base e 1 (.slice (some ⟨g, 0, none⟩) n cap) n (L.map (Value.int .i64))
section
variable {e base g n cap : Nat} {w w' : World} {L : List Int}
theorem IR.cell (h : IR e base w g n cap L) {j : Nat} (hj : j < n) : ∃ u, w.cell? ⟨g, j, none⟩ = some u := by
 rw [World.ownsRow.cellAt h.2.2.2 j (by omega)]
 exact ⟨_, List.getElem?_eq_getElem (by rw [List.length_map, h.1]; exact hj)⟩
theorem IR.free (h : IR e base w g n cap L) (j : Nat) : w.frozen? ⟨g, j, none⟩ = false := World.ownsRow.frozenAt h.2.2.2 j
theorem IR.lt (h : IR e base w g n cap L) : g < w.heap.size := (h.2.2.2.lt g rfl).2
theorem IR.set (h : IR e base w g n cap L) (j : Nat) {a : Int} (ha : I64 a) : IR e base (w.setCell ⟨g, j, none⟩ (.int .i64 a)) g n cap (L.set j a) := by
 refine ⟨by rw [List.length_set]; exact h.1, fun b hb => ?_, h.2.2.1, ?_⟩
 ·rcases List.mem_or_eq_of_mem_set hb with hb | rfl
  ·exact h.2.1 b hb
  ·exact ha
 ·rw [List.map_set]
  exact (h.2.2.2.stored j _).1
theorem IR.fr (h : IR e base w g n cap L) (hl : n ≤ capMax) : intsT.Fr base w [.slice (some ⟨g, 0, none⟩) n cap] L := by
 obtain ⟨h1, h2, h3, h4⟩ := h
 subst h1
 have hlt := (h4.lt g rfl).2
 have hfl : flat (fun _ => []) L.length = [] := List.eq_nil_iff_forall_not_mem.2 fun x hx => by obtain ⟨_, _, h⟩ := List.mem_flatMap.1 hx; cases h
 refine Bl.fr (E := Ty.int) (e := e) (top := w.heap.size) ⟨L.map (Value.int .i64), fun _ => [], h4, fun i hi => ⟨[.int .i64 L[i]], ⟨rfl, h2 _ (List.getElem_mem hi), rfl⟩, fun j hj => ?_⟩, by rw [hfl]; exact List.nodup_nil, by rw [hfl]; simp, fun g' hg' => ?_, by rw [hfl]; intro b hb; cases hb⟩ hl
 ·obtain rfl : j = 0 := by simpa using hj
  simp [Ty.int, hi]
 ·simp [Value.ownBlock] at hg'
  omega
end
def dig (s idx : Int) (j : Nat) : Int := (idx / s ^ j) % s
def digL (s idx : Int) (n : Nat) : List Int := (List.range n).map fun i => dig s idx (n - 1 - i)
theorem digL_len {s idx : Int} {n : Nat} : (digL s idx n).length = n := by simp [digL]
theorem dig_nn {s idx : Int} (hs : 1 ≤ s) (j : Nat) : 0 ≤ dig s idx j ∧ dig s idx j < s := ⟨Int.emod_nonneg _ (by omega), Int.emod_lt_of_pos _ (by omega)⟩
theorem quo_succ {s idx : Int} (hs : 1 ≤ s) (j : Nat) : idx / s ^ j / s = idx / s ^ (j + 1) := by
 rw [Int.pow_succ, Int.ediv_ediv_of_nonneg (pow_nn (by omega) j)]
end Go.Proofs.YtmnjlhcbabhhlaaGreatDoor
namespace Go.Proofs.YtmnjlhcbabhhlaaGreatDoor
open Go.RowKit Go.Sort
end Go.Proofs.YtmnjlhcbabhhlaaGreatDoor
namespace Go.Proofs.YtmnjlhcbabhhlaaGreatDoor
open Go.RowKit Go.Sort
/-- the values of tuples at a place -/
def colL (ts : List (List Int)) (p : Nat) : List Int := ts.map fun t => t.getD p 0
def madeV (s : Int) (tab : List Int) (ts : List (List Int)) (p : Nat) : Int := tab.getD (idxL s 0 (colL ts p)).toNat 0
def madeL (s : Int) (tab : List Int) (ts : List (List Int)) (m : Nat) : List Int := (List.range m).map fun p => madeV s tab ts p
end Go.Proofs.YtmnjlhcbabhhlaaGreatDoor
namespace Go.Proofs.YtmnjlhcbabhhlaaGreatDoor
open Go.RowKit Go.Sort
end Go.Proofs.YtmnjlhcbabhhlaaGreatDoor
namespace Go.Proofs.YtmnjlhcbabhhlaaGreatDoor
open Go.RowKit
/-- a value as it is: for rows whose elements point into older memory -/
def Ty.val : Ty Value where
 sz := 1
 rd := fun _ cs x fp => cs = [x] ∧ x.oneCell' = true ∧ fp = []
 len := by rintro _ _ _ _ ⟨rfl, _, _⟩; rfl
 same := fun h _ => h
 lt := by rintro _ _ _ _ ⟨rfl, _, rfl⟩ k hk; cases hk
 one := by rintro _ _ _ _ ⟨rfl, h, _⟩ u hu; simp at hu; subst hu; exact h
/-- a number and a value -/
abbrev pvT : Ty (Int × Value) := Ty.cons Ty.val
end Go.Proofs.YtmnjlhcbabhhlaaGreatDoor
namespace Go.Proofs.YtmnjlhcbabhhlaaGreatDoor
open Go.RowKit Go.Sort
/-- a row of truth values of the call's own -/
def BR (e base : Nat) (w : World) (g n cap : Nat) (L : List Bool) : Prop := L.length = n ∧ base ≤ g ∧ w.ownsRow base e 1 (.slice (some ⟨g, 0, none⟩) n cap) n (L.map Value.bool)
section
variable {e base g n cap : Nat} {w w' : World} {L : List Bool}
theorem BR.cell (h : BR e base w g n cap L) {j : Nat} (hj : j < L.length) : w.cell? ⟨g, j, none⟩ = some (.bool L[j]) := by
 rw [World.ownsRow.cellAt h.2.2 j (by have := h.1; omega)]
 simp [hj]
theorem BR.free (h : BR e base w g n cap L) (j : Nat) : w.frozen? ⟨g, j, none⟩ = false := World.ownsRow.frozenAt h.2.2 j
theorem BR.lt (h : BR e base w g n cap L) : g < w.heap.size := (h.2.2.lt g rfl).2
theorem BR.set (h : BR e base w g n cap L) (j : Nat) (a : Bool) : BR e base (w.setCell ⟨g, j, none⟩ (.bool a)) g n cap (L.set j a) := by
 refine ⟨by rw [List.length_set]; exact h.1, h.2.1, ?_⟩
 rw [List.map_set]
 exact (h.2.2.stored j _).1
theorem BR.below {B : Nat} (h : BR e base w g n cap L) (hb : Below B w w') (hg : g < B) : BR e base w' g n cap L := by
 refine ⟨h.1, h.2.1, h.2.2.1, ?_⟩
 rcases h.2.2.2 with ⟨h', _⟩ | ⟨g', cap', cur, hg', hbg, hh, r⟩
 ·simp at h'
 ·simp only [Value.slice.injEq, Option.some.injEq, Addr.mk.injEq, and_true, true_and] at hg'
  obtain ⟨rfl, rfl⟩ := hg'
  exact .inr ⟨g, _, cur, rfl, hbg, by rw [hb.block g hg]; exact hh, r⟩
end
end Go.Proofs.YtmnjlhcbabhhlaaGreatDoor
namespace Go.Proofs.YtmnjlhcbabhhlaaGreatDoor
open Go.RowKit Go.Sort
/-- the tuples of a relation that an index picks -/
def picks (ts : List (List Int)) (ar : Nat) (i : Int) : List (List Int) := (digL ts.length i ar).map fun k => ts.getD k.toNat []
/-- what the operation makes of them -/
def makes (s : Int) (f : Int × List Int) (r : Int × List (List Int)) (i : Int) : List Int := madeL s f.2 (picks r.2 f.1.toNat i) r.1.toNat
end Go.Proofs.YtmnjlhcbabhhlaaGreatDoor
namespace Go.Proofs.YtmnjlhcbabhhlaaGreatDoor
open Go.RowKit Go.Sort
/-- a set of tuples in new memory: a box whose third cell is a row of truth values -/
def SetAt (e base : Nat) (w : World) (bx g n : Nat) (L : List Bool) : Prop := base ≤ bx ∧ bx < w.heap.size ∧ g ≠ bx ∧ w.cell? ⟨bx, 2, none⟩ = some (.slice (some ⟨g, 0, none⟩) n n) ∧ BR e base w g n n L
theorem SetAt.below {e base bx g n B : Nat} {w w' : World} {L : List Bool} (h : SetAt e base w bx g n L) (hb : Below B w w') (hB : w.heap.size ≤ B) : SetAt e base w' bx g n L :=
 let ⟨h1, h2, h3, h4, h5⟩ := h
 ⟨h1, Nat.lt_of_lt_of_le h2 hb.size, h3, (hb.cell (p := ⟨bx, 2, none⟩) (Nat.lt_of_lt_of_le h2 hB)).trans h4, h5.below hb (Nat.lt_of_lt_of_le h5.lt hB)⟩
/-- the indices that have come up among the first k tuples -/
def seenL (s : Int) (N : Nat) (ts : List (List Int)) : List Bool := (List.range N).map fun j : Nat => ts.any fun t => idxL s 0 t == (j : Int)
end Go.Proofs.YtmnjlhcbabhhlaaGreatDoor
namespace Go.Proofs.YtmnjlhcbabhhlaaGreatDoor
open Go.RowKit Go.Sort
end Go.Proofs.YtmnjlhcbabhhlaaGreatDoor
namespace Go.Proofs.YtmnjlhcbabhhlaaGreatDoor
open Go.RowKit Go.Sort
/-- the slices that stand in a row read as the first tuples -/
def picked (w : World) (vs : List Value) (ts : List (List Int)) : Prop := vs.length ≤ ts.length ∧ ∀ i (h : i < vs.length) (h' : i < ts.length), intsT.Rd w [vs[i]] ts[i]
theorem picked.below {w w' : World} {vs : List Value} {ts : List (List Int)} (h : picked w vs ts) (hb : Below w.heap.size w w') : picked w' vs ts := ⟨h.1, fun i h1 h2 => (h.2 i h1 h2).below hb⟩
end Go.Proofs.YtmnjlhcbabhhlaaGreatDoor
namespace Go.Proofs.YtmnjlhcbabhhlaaGreatDoor
open Go.RowKit Go.Sort
def topI (xs : List Int) : Int := xs.foldl max 0
end Go.Proofs.YtmnjlhcbabhhlaaGreatDoor
namespace Go.Proofs.YtmnjlhcbabhhlaaGreatDoor
open Go.RowKit Go.Sort
abbrev Tpl := Int × List (Int × List (List Int))
/-- the truth values of a template's relations -/
def insF (t : Tpl) : List (List Bool) := t.2.map fun r => seenL t.1 (t.1 ^ r.1.toNat).toNat r.2
end Go.Proofs.YtmnjlhcbabhhlaaGreatDoor
namespace Go.Proofs.YtmnjlhcbabhhlaaGreatDoor
open Go.RowKit
/-- read in blocks for which something is so -/
def Ty.RdP {α : Type} (E : Ty α) (ok : Nat → Prop) (w : World) (cs : List Value) (x : α) : Prop := ∃ fp, E.rd w cs x fp ∧ ∀ k ∈ fp, ok k
section
variable {α : Type} {E : Ty α} {ok ok' : Nat → Prop} {w w' : World} {cs : List Value} {x : α}
theorem Ty.RdP.rd (h : E.RdP ok w cs x) : E.Rd w cs x := let ⟨fp, h, _⟩ := h; ⟨fp, h⟩
theorem Ty.RdP.mono (h : E.RdP ok w cs x) (hk : ∀ k, k < w.heap.size → ok k → ok' k) : E.RdP ok' w cs x := let ⟨fp, h, hf⟩ := h; ⟨fp, h, fun k hk' => hk k (E.lt h k hk') (hf k hk')⟩
theorem Ty.Rd.P (h : E.Rd w cs x) : E.RdP (fun k => k < w.heap.size) w cs x := let ⟨fp, h⟩ := h; ⟨fp, h, E.lt h⟩
theorem Ty.RdP.tch {O : List Nat} (h : E.RdP ok w cs x) (ht : TchF O w w') (hO : ∀ k, k < w.heap.size → ok k → k ∉ O) : E.RdP ok w' cs x :=
 let ⟨fp, h, hf⟩ := h; ⟨fp, E.same h (ht.same fun k hk => ⟨E.lt h k hk, hO k (E.lt h k hk) (hf k hk)⟩), hf⟩
theorem Ty.RdP.below (h : E.RdP ok w cs x) (hb : Below w.heap.size w w') : E.RdP ok w' cs x := h.tch (O := []) (Below.tchF hb []) (fun _ _ _ => List.not_mem_nil)
theorem Ty.rd.below {fp : List Nat} (h : E.rd w cs x fp) (hb : Below w.heap.size w w') : E.rd w' cs x fp := E.same h (Same.below hb (E.lt h))
theorem Ty.rd.tch {fp O : List Nat} (h : E.rd w cs x fp) (ht : TchF O w w') (hO : ∀ k ∈ fp, k ∉ O) : E.rd w' cs x fp := E.same h (ht.same fun k hk => ⟨E.lt h k hk, hO k hk⟩)
end
theorem TchF.then {O O' : List Nat} {a b c : World} (h : TchF O a b) (h' : TchF O' b c) (hO : ∀ k ∈ O', k ∈ O ∨ a.heap.size ≤ k) : TchF O a c :=
 ⟨h'.os.trans h.os, h'.tape.trans h.tape, h'.output.trans h.output, Nat.le_trans h.size h'.size, fun k hk hn => (h'.block k (Nat.lt_of_lt_of_le hk h.size) fun hm => by
  rcases hO k hm with hm | hm
  ·exact hn hm
  ·omega).trans (h.block k hk hn)⟩
theorem TchF.below {O : List Nat} {a b : World} {B : Nat} (h : TchF O a b) (hB : B ≤ a.heap.size) (hO : ∀ k ∈ O, B ≤ k) : Below B a b :=
 ⟨h.os, h.tape, h.output, h.size, fun k hk => h.block k (Nat.lt_of_lt_of_le hk hB) fun hm => Nat.not_lt.2 (hO k hm) hk⟩
abbrev duesT : Ty (List (List (Int × List Int))) := Ty.slice opsT
/-- a search's data, at block bs: the template, how many variables, the atoms that are due at each -/
def Sv (ok : Nat → Prop) (w : World) (bs : Nat) (t : Int × List (Int × List (List Int))) (vars : Int) (due : List (List (Int × List Int))) : Prop :=
 bs < w.heap.size ∧ ok bs ∧ ∃ v1 v3, w.cell? ⟨bs, 0, none⟩ = some (.int .i64 t.1) ∧ w.cell? ⟨bs, 1, none⟩ = some v1 ∧ w.cell? ⟨bs, 2, none⟩ = some (.int .i64 vars) ∧ w.cell? ⟨bs, 3, none⟩ = some v3 ∧ tplT.RdP ok w [.int .i64 t.1, v1] t ∧ duesT.RdP ok w [v3] due
section
variable {ok ok' : Nat → Prop} {w w' : World} {bs : Nat} {t : Int × List (Int × List (List Int))} {vars : Int} {due : List (List (Int × List Int))}
theorem Sv.tch {O : List Nat} (h : Sv ok w bs t vars due) (ht : TchF O w w') (hO : ∀ k, k < w.heap.size → ok k → k ∉ O) : Sv ok w' bs t vars due := by
 obtain ⟨h1, h2, v1, v3, c0, c1, c2, c3, h3, h4⟩ := h
 have hn := hO bs h1 h2
 exact ⟨Nat.lt_of_lt_of_le h1 ht.size, h2, v1, v3, (ht.cell h1 hn).trans c0, (ht.cell h1 hn).trans c1, (ht.cell h1 hn).trans c2, (ht.cell h1 hn).trans c3, h3.tch ht hO, h4.tch ht hO⟩
theorem Sv.below (h : Sv ok w bs t vars due) (hb : Below w.heap.size w w') : Sv ok w' bs t vars due := h.tch (O := []) (Below.tchF hb []) (fun _ _ _ => List.not_mem_nil)
theorem Sv.mono (h : Sv ok w bs t vars due) (hk : ∀ k, k < w.heap.size → ok k → ok' k) : Sv ok' w bs t vars due := by
 obtain ⟨h1, h2, v1, v3, c0, c1, c2, c3, h3, h4⟩ := h
 exact ⟨h1, hk _ h1 h2, v1, v3, c0, c1, c2, c3, h3.mono hk, h4.mono hk⟩
end
/-- a listener of lists of values: what it keeps (I), and the blocks that it may write (O) -/
structure Yl (P : Program) (g : FuncId) (caps : Array Value) (go : List (List Int) → Bool) (I : List (List Int) → List Nat → World → Prop) : Prop where
 stable : ∀ {told O w w'}, I told O w → Below w.heap.size w w' → I told O w'
 lt : ∀ {told O w}, I told O w → ∀ k ∈ O, k < w.heap.size
 step : ∀ {told O w0 w u x}, I told O w0 → Below w0.heap.size w0 w → intsT.Fr w0.heap.size w [u] x → x.length ≤ 10 → told.length ≤ 2000000 →
  Calls P g (#[u] ++ caps) w fun e w' => e = .returned (.bool (go (told ++ [x]))) ∧ ∃ O', I (told ++ [x]) O' w' ∧ TchF O w w' ∧ ∀ k ∈ O', k ∈ O ∨ w0.heap.size ≤ k
end Go.Proofs.YtmnjlhcbabhhlaaGreatDoor
namespace Go.Proofs.YtmnjlhcbabhhlaaGreatDoor
open Go.RowKit
theorem slice_exP {α : Type} {E : Ty α} {ok : Nat → Prop} {w : World} {cs : List Value} {xs : List α} (h : (Ty.slice E).RdP ok w cs xs) :
  ∃ ad cap, cs = [.slice ad xs.length cap] ∧ xs.length ≤ cap ∧ xs.length ≤ 140737488351232 ∧
   (0 < xs.length → ∃ b o, ad = some ⟨b, o, none⟩ ∧ b < w.heap.size ∧ ok b ∧ ∀ i (h : i < xs.length), ∃ cs, E.RdP ok w cs xs[i] ∧ ∀ j (hj : j < cs.length), w.cell? ⟨b, o + i * E.sz + j, none⟩ = some cs[j]) := by
 obtain ⟨fp, ⟨ad, cap, rfl, h1, h2, h3⟩, hok⟩ := h
 refine ⟨ad, cap, rfl, h1, h2, fun hp => ?_⟩
 rcases h3 with h3 | ⟨h3, b, o, fps, rfl, hb, rfl, h4⟩
 ·omega
 ·exact ⟨b, o, rfl, hb, hok b (List.mem_cons_self ..), fun i hi => let ⟨cs, h5, h6⟩ := h4 i hi; ⟨cs, ⟨_, h5, fun k hk => hok k (List.mem_cons_of_mem _ (List.mem_flatMap.2 ⟨i, by simpa using hi, hk⟩))⟩, h6⟩⟩
/-- from its elements -/
theorem slice_mkP {α : Type} {E : Ty α} {ok : Nat → Prop} {w : World} {ad : Option Addr} {n cap : Nat} {xs : List α} (hn : n = xs.length) (h1 : n ≤ cap) (h2 : n ≤ capMax)
  (h : 0 < n → ∃ b o, ad = some ⟨b, o, none⟩ ∧ b < w.heap.size ∧ ok b ∧ ∀ i (h : i < xs.length), ∃ cs, E.RdP ok w cs xs[i] ∧ ∀ j (hj : j < cs.length), w.cell? ⟨b, o + i * E.sz + j, none⟩ = some cs[j]) :
  (Ty.slice E).RdP ok w [.slice ad n cap] xs := by
 subst hn
 rcases Nat.eq_zero_or_pos xs.length with h0 | h0
 ·exact ⟨[], ⟨ad, cap, rfl, h1, h2, .inl ⟨h0, rfl⟩⟩, fun k hk => by cases hk⟩
 ·obtain ⟨b, o, rfl, hb, hok, he⟩ := h h0
  have key : ∀ i, ∃ cf : List Value × List Nat, ∀ (h : i < xs.length), E.rd w cf.1 xs[i] cf.2 ∧ (∀ k ∈ cf.2, ok k) ∧ ∀ j (hj : j < cf.1.length), w.cell? ⟨b, o + i * E.sz + j, none⟩ = some cf.1[j] := fun i => by
   by_cases hi : i < xs.length
   ·obtain ⟨cs, ⟨fp, h3, h4⟩, h5⟩ := he i hi
    exact ⟨(cs, fp), fun _ => ⟨h3, h4, h5⟩⟩
   ·exact ⟨([], []), fun h => absurd h hi⟩
  obtain ⟨F, hF⟩ := Classical.axiomOfChoice key
  refine ⟨b :: (List.range xs.length).flatMap fun i => (F i).2, ⟨_, cap, rfl, h1, h2, .inr ⟨h0, b, o, fun i => (F i).2, rfl, hb, rfl, fun i hi => ⟨(F i).1, (hF i hi).1, (hF i hi).2.2⟩⟩⟩, fun k hk => ?_⟩
  rcases List.mem_cons.1 hk with rfl | hk
  ·exact hok
  ·obtain ⟨i, hi, hk⟩ := List.mem_flatMap.1 hk
   exact (hF i (by simpa using hi)).2.1 k hk
/-- what a value of a row's cells reads as -/
def pvR (ok : Nat → Prop) (w : World) (z : (Int × List Int) × (Int × Value)) : Prop := z.2.1 = z.1.1 ∧ I64 z.1.1 ∧ intsT.RdP ok w [z.2.2] z.1.2
theorem pvR.below {ok : Nat → Prop} {w w' : World} {z : (Int × List Int) × (Int × Value)} (h : pvR ok w z) (hb : Below w.heap.size w w') : pvR ok w' z := ⟨h.1, h.2.1, h.2.2.below hb⟩
theorem pvR.mono {ok ok' : Nat → Prop} {w : World} {z : (Int × List Int) × (Int × Value)} (h : pvR ok w z) (hk : ∀ k, k < w.heap.size → ok k → ok' k) : pvR ok' w z := ⟨h.1, h.2.1, h.2.2.mono hk⟩
theorem Bl.ge {α : Type} {E : Ty α} {e base top : Nat} {w : World} {v : Value} {ys : List α} (h : Bl E e base top w v ys) {g : Nat} (hg : v.ownBlock = some g) : base ≤ g := by
 obtain ⟨L, fps, h1, _⟩ := h
 exact (h1.lt g hg).1
theorem Bl.lt_top {α : Type} {E : Ty α} {e base top : Nat} {w : World} {v : Value} {ys : List α} (h : Bl E e base top w v ys) {g : Nat} (hg : v.ownBlock = some g) : g < top := by
 obtain ⟨L, fps, _, _, _, _, h5, _⟩ := h
 exact h5 g hg
/-- a datum that does not lie in one block -/
def Ty.off {α : Type} (E : Ty α) (bx : Nat) : Ty α where
 sz := E.sz
 rd := fun w cs x fp => E.rd w cs x fp ∧ bx ∉ fp
 len := fun h => E.len h.1
 same := fun h hs => ⟨E.same h.1 hs, h.2⟩
 lt := fun h => E.lt h.1
 one := fun h => E.one h.1
theorem pv_same {e base top top' : Nat} {w w' : World} {v : Value} {ys : List (Int × Value)} (h : Bl pvT e base top w v ys) (hs : ∀ b, v.ownBlock = some b → w'.heap[b]? = w.heap[b]?) (ht : top ≤ top') : Bl pvT e base top' w' v ys := by
 obtain ⟨L, fps, h1, h2, h3, h4, h5, h6⟩ := h
 have hnil : ∀ b, b ∉ flat fps ys.length := by
  intro b hb
  obtain ⟨i, hi, hb⟩ := List.mem_flatMap.1 hb
  obtain ⟨cs, ⟨cs', _, _, _, _, hf⟩, _⟩ := h2 i (by simpa using hi)
  rw [hf] at hb
  cases hb
 refine ⟨L, fps, ⟨h1.1, ?_⟩, fun i hi => ?_, h3, fun b hb => absurd hb (hnil b), fun g hg => Nat.lt_of_lt_of_le (h5 g hg) ht, fun b hb => absurd hb (hnil b)⟩
 ·rcases h1.2 with h | ⟨g, cap, cur, rfl, hg, hh, r⟩
  ·exact .inl h
  ·exact .inr ⟨g, cap, cur, rfl, hg, by rw [hs g rfl]; exact hh, r⟩
 ·obtain ⟨cs, h7, h8⟩ := h2 i hi
  exact ⟨cs, h7, h8⟩
/-- a row of n rows at block g: its cells are us; each is a row of the call's own, from base on, and no two share a block -/
def DU (eA eR base top : Nat) (w : World) (g n : Nat) (us : Nat → Value) (Ls : Nat → List (Int × Value)) : Prop :=
 w.ownsRow g eR 1 (.slice (some ⟨g, 0, none⟩) n n) n ((List.range n).map us) ∧ g < base ∧ (∀ v, v < n → Bl pvT eA base top w (us v) (Ls v)) ∧ ∀ v, v < n → ∀ b, (us v).ownBlock = some b → ∀ v', v' < n → v' ≠ v → (us v').ownBlock ≠ some b
section
variable {eA eR base top g n : Nat} {w w' : World} {us : Nat → Value} {Ls : Nat → List (Int × Value)}
theorem owns_same {b e sz : Nat} {g n cap : Nat} {xs : List Value} (h : w.ownsRow b e sz (.slice (some ⟨g, 0, none⟩) n cap) n xs) (hs : w'.heap[g]? = w.heap[g]?) : w'.ownsRow b e sz (.slice (some ⟨g, 0, none⟩) n cap) n xs := by
 refine ⟨h.1, ?_⟩
 rcases h.2 with h | ⟨g', cap, cur, hg', hg, hh, r⟩
 ·exact .inl h
 ·simp only [Value.slice.injEq, Option.some.injEq, Addr.mk.injEq, and_true, true_and] at hg'
  obtain ⟨rfl, rfl⟩ := hg'
  exact .inr ⟨g, _, cur, rfl, hg, by rw [hs]; exact hh, r⟩
theorem DU.lt (h : DU eA eR base top w g n us Ls) : g < w.heap.size := (h.1.lt g rfl).2
theorem DU.cell (h : DU eA eR base top w g n us Ls) {j : Nat} (hj : j < n) : w.cell? ⟨g, j, none⟩ = some (us j) := by
 rw [World.ownsRow.cellAt h.1 j (by omega)]
 simp [hj]
theorem DU.free (h : DU eA eR base top w g n us Ls) (j : Nat) : w.frozen? ⟨g, j, none⟩ = false := World.ownsRow.frozenAt h.1 j
theorem DU.below {B : Nat} (h : DU eA eR base top w g n us Ls) (hb : Below B w w') (ht : top ≤ B) (hB : base ≤ B) : DU eA eR base top w' g n us Ls :=
 ⟨owns_same h.1 (hb.block g (by have := h.2.1; omega)), h.2.1, fun v hv => (h.2.2.1 v hv).below hb ht, h.2.2.2⟩
theorem DU.mono {top' : Nat} (h : DU eA eR base top w g n us Ls) (ht : top ≤ top') : DU eA eR base top' w g n us Ls := ⟨h.1, h.2.1, fun v hv => (h.2.2.1 v hv).mono ht, h.2.2.2⟩
end
end Go.Proofs.YtmnjlhcbabhhlaaGreatDoor
namespace Go.Proofs.YtmnjlhcbabhhlaaGreatDoor
open Go.RowKit
/-- only blocks of which O holds are written, and new ones -/
structure TchP (O : Nat → Prop) (w w' : World) : Prop where
 os : w'.os = w.os
 tape : w'.tape = w.tape
 output : w'.output = w.output
 size : w.heap.size ≤ w'.heap.size
 block : ∀ k, k < w.heap.size → ¬ O k → w'.heap[k]? = w.heap[k]?
section
variable {O O' : Nat → Prop} {w w' w'' : World}
theorem TchP.refl (O : Nat → Prop) (w : World) : TchP O w w := ⟨rfl, rfl, rfl, Nat.le_refl _, fun _ _ _ => rfl⟩
theorem TchP.of_below (h : Below w.heap.size w w') (O : Nat → Prop) : TchP O w w' := ⟨h.os, h.tape, h.output, h.size, fun k hk _ => h.block k hk⟩
theorem TchP.then (h : TchP O w w') (h' : TchP O' w' w'') (hO : ∀ k, k < w.heap.size → O' k → O k) : TchP O w w'' :=
 ⟨h'.os.trans h.os, h'.tape.trans h.tape, h'.output.trans h.output, Nat.le_trans h.size h'.size, fun k hk hn => (h'.block k (Nat.lt_of_lt_of_le hk h.size) fun hm => hn (hO k hk hm)).trans (h.block k hk hn)⟩
theorem TchP.mono (h : TchP O w w') (hO : ∀ k, k < w.heap.size → O k → O' k) : TchP O' w w' := ⟨h.os, h.tape, h.output, h.size, fun k hk hn => h.block k hk fun hm => hn (hO k hk hm)⟩
theorem TchP.below {B : Nat} (h : TchP O w w') (hB : B ≤ w.heap.size) (hO : ∀ k, k < B → ¬ O k) : Below B w w' := ⟨h.os, h.tape, h.output, h.size, fun k hk => h.block k (Nat.lt_of_lt_of_le hk hB) (hO k hk)⟩
theorem TchP.cell (h : TchP O w w') {b i : Nat} (hb : b < w.heap.size) (hn : ¬ O b) : w'.cell? ⟨b, i, none⟩ = w.cell? ⟨b, i, none⟩ := World.cell?_of_block (a := ⟨b, i, none⟩) (h.block b hb hn)
theorem TchP.frozen (h : TchP O w w') {b i : Nat} (hb : b < w.heap.size) (hn : ¬ O b) : w'.frozen? ⟨b, i, none⟩ = w.frozen? ⟨b, i, none⟩ := World.frozen?_of_block (a := ⟨b, i, none⟩) (h.block b hb hn)
theorem TchP.set {b i : Nat} {v : Value} (hO : O b) : TchP O w (w.setCell ⟨b, i, none⟩ v) := ⟨rfl, rfl, rfl, by simp [World.setCell], fun k _ hn => Below.heap_setCell _ _ _ _ fun e => hn (by simp at e; rw [e]; exact hO)⟩
theorem TchP.grown {row : Option Nat} (h : w.grownBy w' row) (hO : ∀ k, row = some k → O k) : TchP O w w' := ⟨h.os, h.tape, h.output, h.size, fun k hk hn => h.block k hk fun e => hn (hO k e.symm)⟩
theorem Ty.RdP.tchP {α : Type} {E : Ty α} {ok : Nat → Prop} {cs : List Value} {x : α} (h : E.RdP ok w cs x) (ht : TchP O w w') (hO : ∀ k, k < w.heap.size → ok k → ¬ O k) : E.RdP ok w' cs x :=
 let ⟨fp, h, hf⟩ := h; ⟨fp, E.same h (fun k hk => ht.block k (E.lt h k hk) (hO k (E.lt h k hk) (hf k hk))), hf⟩
theorem pvR.tchP {ok : Nat → Prop} {z : (Int × List Int) × (Int × Value)} (h : pvR ok w z) (ht : TchP O w w') (hO : ∀ k, k < w.heap.size → ok k → ¬ O k) : pvR ok w' z := ⟨h.1, h.2.1, h.2.2.tchP ht hO⟩
end
/-- a datum that lies in blocks of which O holds -/
def Ty.on {α : Type} (E : Ty α) (O : Nat → Prop) : Ty α where
 sz := E.sz
 rd := fun w cs x fp => E.rd w cs x fp ∧ ∀ k ∈ fp, O k
 len := fun h => E.len h.1
 same := fun h hs => ⟨E.same h.1 hs, h.2⟩
 lt := fun h => E.lt h.1
 one := fun h => E.one h.1
section
variable {α : Type} {E : Ty α} {O O' : Nat → Prop} {e base top : Nat} {w w' : World} {v : Value} {ys : List α}
/-- a row of numbers: all that it hangs on is its own block -/
theorem bl_int_same {top' : Nat} {ys : List Int} (h : Bl Ty.int e base top w v ys) (hs : ∀ b, v.ownBlock = some b → w'.heap[b]? = w.heap[b]?) (ht : top ≤ top') : Bl Ty.int e base top' w' v ys := by
 obtain ⟨L, fps, h1, h2, h3, h4, h5, h6⟩ := h
 have hnil : ∀ b, b ∉ flat fps ys.length := by
  intro b hb
  obtain ⟨i, hi, hb⟩ := List.mem_flatMap.1 hb
  obtain ⟨cs, ⟨_, _, hf⟩, _⟩ := h2 i (by simpa using hi)
  rw [hf] at hb
  cases hb
 refine ⟨L, fps, ⟨h1.1, ?_⟩, fun i hi => ?_, h3, fun b hb => absurd hb (hnil b), fun g hg => Nat.lt_of_lt_of_le (h5 g hg) ht, fun b hb => absurd hb (hnil b)⟩
 ·rcases h1.2 with h | ⟨g, cap, cur, rfl, hg, hh, r⟩
  ·exact .inl h
  ·exact .inr ⟨g, cap, cur, rfl, hg, by rw [hs g rfl]; exact hh, r⟩
 ·obtain ⟨cs, h7, h8⟩ := h2 i hi
  exact ⟨cs, h7, h8⟩
/-- a row of values as they are -/
theorem bl_val_same {top' : Nat} {ys : List Value} (h : Bl Ty.val e base top w v ys) (hs : ∀ b, v.ownBlock = some b → w'.heap[b]? = w.heap[b]?) (ht : top ≤ top') : Bl Ty.val e base top' w' v ys := by
 obtain ⟨L, fps, h1, h2, h3, h4, h5, h6⟩ := h
 have hnil : ∀ b, b ∉ flat fps ys.length := by
  intro b hb
  obtain ⟨i, hi, hb⟩ := List.mem_flatMap.1 hb
  obtain ⟨cs, ⟨_, _, hf⟩, _⟩ := h2 i (by simpa using hi)
  rw [hf] at hb
  cases hb
 refine ⟨L, fps, ⟨h1.1, ?_⟩, fun i hi => ?_, h3, fun b hb => absurd hb (hnil b), fun g hg => Nat.lt_of_lt_of_le (h5 g hg) ht, fun b hb => absurd hb (hnil b)⟩
 ·rcases h1.2 with h | ⟨g, cap, cur, rfl, hg, hh, r⟩
  ·exact .inl h
  ·exact .inr ⟨g, cap, cur, rfl, hg, by rw [hs g rfl]; exact hh, r⟩
 ·obtain ⟨cs, h7, h8⟩ := h2 i hi
  exact ⟨cs, h7, h8⟩
end
abbrev boolsT : Ty (List Bool) := Ty.slice Ty.bool
/-- a row of values as they are, each of which reads as a datum of one cell -/
theorem rows_ofP {α : Type} {E : Ty α} {ok : Nat → Prop} {w : World} {v : Value} {vs : List Value} {ts : List α} (hE : E.sz = 1) (h : (Ty.slice Ty.val).RdP ok w [v] vs) (hl : vs.length = ts.length) (hr : ∀ i (h : i < vs.length) (h' : i < ts.length), E.RdP ok w [vs[i]] ts[i]) : (Ty.slice E).RdP ok w [v] ts := by
 obtain ⟨ad, cap, hv, h1, h2, h3⟩ := slice_exP h
 obtain rfl : v = _ := by simpa using hv
 refine slice_mkP hl h1 h2 fun h0 => ?_
 obtain ⟨b, o, rfl, hb, hok, he⟩ := h3 h0
 refine ⟨b, o, rfl, hb, hok, fun i hi => ?_⟩
 obtain ⟨cs, ⟨fp, ⟨rfl, _, _⟩, hf⟩, h6⟩ := he i (by omega)
 refine ⟨_, hr i (by omega) hi, fun j hj => ?_⟩
 have h7 := h6 j hj
 rw [hE]
 exact h7
theorem bl_val_rdP {e base top : Nat} {w : World} {v : Value} {vs : List Value} {ok : Nat → Prop} (h : Bl Ty.val e base top w v vs) (hl : vs.length ≤ capMax) (hv : ∀ g, v.ownBlock = some g → ok g) : (Ty.slice Ty.val).RdP ok w [v] vs := by
 obtain ⟨fp, h1, -, -, -⟩ := h.fr hl
 refine ⟨fp, h1, fun k hk => ?_⟩
 obtain ⟨ad, cap, hv', -, -, h3⟩ := h1
 obtain rfl : v = _ := by simpa using hv'
 rcases h3 with ⟨_, rfl⟩ | ⟨_, b, o, fps, rfl, _, rfl, h4⟩
 ·cases hk
 ·rcases List.mem_cons.1 hk with rfl | hk
  ·exact hv _ rfl
  ·obtain ⟨i, hi, hk⟩ := List.mem_flatMap.1 hk
   obtain ⟨cs, ⟨_, _, hf⟩, _⟩ := h4 i (by simpa using hi)
   rw [hf] at hk
   cases hk
/-- a pointer to a box whose third cell is a row of truth values -/
def Ty.setp : Ty (List Bool) where
 sz := 1
 rd := fun w cs L fp => ∃ bx v fp', cs = [.pointer (some ⟨bx, 0, none⟩)] ∧ bx < w.heap.size ∧ w.cell? ⟨bx, 2, none⟩ = some v ∧ boolsT.rd w [v] L fp' ∧ fp = bx :: fp'
 len := by rintro _ _ _ _ ⟨_, _, _, rfl, _⟩; rfl
 same := by
  rintro w w' _ L _ ⟨bx, v, fp', rfl, h1, h2, h3, rfl⟩ hs
  have hb := hs bx (List.mem_cons_self ..)
  refine ⟨bx, v, fp', rfl, ?_, (World.cell?_of_block (a := ⟨bx, 2, none⟩) hb).trans h2, boolsT.same h3 (fun k hk => hs k (List.mem_cons_of_mem _ hk)), rfl⟩
  rcases Nat.lt_or_ge bx w'.heap.size with h' | h'
  ·exact h'
  ·rw [Array.getElem?_eq_none h', Array.getElem?_eq_getElem h1] at hb
   cases hb
 lt := by
  rintro w _ L _ ⟨bx, v, fp', rfl, h1, h2, h3, rfl⟩ k hk
  rcases List.mem_cons.1 hk with rfl | hk
  ·exact h1
  ·exact boolsT.lt h3 k hk
 one := by rintro _ _ _ _ ⟨_, _, _, rfl, _⟩ u hu; simp at hu; subst hu; rfl
end Go.Proofs.YtmnjlhcbabhhlaaGreatDoor
namespace Go.Proofs.YtmnjlhcbabhhlaaGreatDoor
open Go.RowKit Go.Sort
/-- what a finder only reads: at block bs -/
def Fd (ok : Nat → Prop) (w : World) (bs : Nat) (t : Tpl) (ar : Int) (due : List (List (Int × List Int))) (fx : List Int) : Prop :=
 bs < w.heap.size ∧ ∃ v3 v4 v5, w.cell? ⟨bs, 0, none⟩ = some (.int .i64 t.1) ∧ w.cell? ⟨bs, 2, none⟩ = some (.int .i64 ar) ∧ w.cell? ⟨bs, 3, none⟩ = some v3 ∧ w.cell? ⟨bs, 4, none⟩ = some v4 ∧ w.cell? ⟨bs, 5, none⟩ = some v5 ∧
  duesT.RdP ok w [v3] due ∧ (Ty.slice boolsT).RdP ok w [v4] (insF t) ∧ intsT.RdP ok w [v5] fx
section
variable {ok ok' : Nat → Prop} {w w' : World} {bs : Nat} {t : Tpl} {ar : Int} {due : List (List (Int × List Int))} {fx : List Int}
theorem Fd.below (h : Fd ok w bs t ar due fx) (hb : Below w.heap.size w w') : Fd ok w' bs t ar due fx := by
 obtain ⟨h1, v3, v4, v5, c0, c2, c3, c4, c5, h3, h4, h5⟩ := h
 exact ⟨Nat.lt_of_lt_of_le h1 hb.size, v3, v4, v5, (hb.cell (p := ⟨bs, 0, none⟩) h1).trans c0, (hb.cell (p := ⟨bs, 2, none⟩) h1).trans c2, (hb.cell (p := ⟨bs, 3, none⟩) h1).trans c3, (hb.cell (p := ⟨bs, 4, none⟩) h1).trans c4, (hb.cell (p := ⟨bs, 5, none⟩) h1).trans c5, h3.below hb, h4.below hb, h5.below hb⟩
/-- its own last two cells and other blocks may be written -/
theorem Fd.tchP {O : Nat → Prop} (h : Fd ok w bs t ar due fx) (ht : TchP O w w') (hO : ∀ k, k < w.heap.size → ok k → ¬ O k) (hb : ¬ O bs) : Fd ok w' bs t ar due fx := by
 obtain ⟨h1, v3, v4, v5, c0, c2, c3, c4, c5, h3, h4, h5⟩ := h
 exact ⟨Nat.lt_of_lt_of_le h1 ht.size, v3, v4, v5, (ht.cell h1 hb).trans c0, (ht.cell h1 hb).trans c2, (ht.cell h1 hb).trans c3, (ht.cell h1 hb).trans c4, (ht.cell h1 hb).trans c5, h3.tchP ht hO, h4.tchP ht hO, h5.tchP ht hO⟩
theorem Fd.set {i : Nat} {u : Value} (h : Fd ok w bs t ar due fx) (hi : 6 ≤ i) (hO : ¬ ok bs) : Fd ok (w.setCell ⟨bs, i, none⟩ u) bs t ar due fx := by
 obtain ⟨h1, v3, v4, v5, c0, c2, c3, c4, c5, h3, h4, h5⟩ := h
 have hs : TchP (fun k => k = bs) w (w.setCell ⟨bs, i, none⟩ u) := TchP.set rfl
 have hk : ∀ k, k < w.heap.size → ok k → ¬ (k = bs) := fun k _ hk e => hO (e ▸ hk)
 have hc : ∀ j, j < 6 → (w.setCell ⟨bs, i, none⟩ u).cell? ⟨bs, j, none⟩ = w.cell? ⟨bs, j, none⟩ := fun j hj => World.cell?_setCell_other _ _ _ _ (by first | (simp; done) | (simp; omega))
 exact ⟨by simpa [World.setCell] using h1, v3, v4, v5, (hc 0 (by omega)).trans c0, (hc 2 (by omega)).trans c2, (hc 3 (by omega)).trans c3, (hc 4 (by omega)).trans c4, (hc 5 (by omega)).trans c5, h3.tchP hs hk, h4.tchP hs hk, h5.tchP hs hk⟩
theorem Fd.mono (h : Fd ok w bs t ar due fx) (hk : ∀ k, k < w.heap.size → ok k → ok' k) : Fd ok' w bs t ar due fx := by
 obtain ⟨h1, v3, v4, v5, c0, c2, c3, c4, c5, h3, h4, h5⟩ := h
 exact ⟨h1, v3, v4, v5, c0, c2, c3, c4, c5, h3.mono hk, h4.mono hk, h5.mono hk⟩
end
end Go.Proofs.YtmnjlhcbabhhlaaGreatDoor
namespace Go.Proofs.YtmnjlhcbabhhlaaGreatDoor
open Go.RowKit Go.Sort
/-- what a search turns: how many steps, the values so far, in a row of its own -/
def Tb (e base : Nat) (w : World) (bs st : Nat) (v : Value) (vals : List Int) : Prop :=
 w.cell? ⟨bs, 6, none⟩ = some (.int .i64 (st : Int)) ∧ w.cell? ⟨bs, 7, none⟩ = some v ∧ w.frozen? ⟨bs, 6, none⟩ = false ∧ w.frozen? ⟨bs, 7, none⟩ = false ∧ Bl Ty.int e base w.heap.size w v vals
theorem Tb.same {e base : Nat} {w w' : World} {bs st : Nat} {v : Value} {vals : List Int} (h : Tb e base w bs st v vals) (hb : w'.heap[bs]? = w.heap[bs]?) (hs : ∀ b, v.ownBlock = some b → w'.heap[b]? = w.heap[b]?) (hz : w.heap.size ≤ w'.heap.size) : Tb e base w' bs st v vals :=
 let ⟨h1, h2, h3, h4, h5⟩ := h
 ⟨(World.cell?_of_block (a := ⟨bs, 6, none⟩) hb).trans h1, (World.cell?_of_block (a := ⟨bs, 7, none⟩) hb).trans h2, (World.frozen?_of_block (a := ⟨bs, 6, none⟩) hb).trans h3, (World.frozen?_of_block (a := ⟨bs, 7, none⟩) hb).trans h4, bl_int_same h5 hs hz⟩
theorem Tb.below {e base : Nat} {w w' : World} {bs st : Nat} {v : Value} {vals : List Int} (h : Tb e base w bs st v vals) (hl : bs < w.heap.size) (hb : Below w.heap.size w w') : Tb e base w' bs st v vals :=
 h.same (hb.block bs hl) (fun _ hq => hb.block _ (h.2.2.2.2.lt_top hq)) hb.size
/-- a listener of operations: what it keeps (I), and the blocks that are its own (O) -/
structure Yf (P : Program) (ar : Int) (g : FuncId) (caps : Array Value) (yc : List (List Int) → Int) (I : List (List Int) → (Nat → Prop) → World → Prop) : Prop where
 stable : ∀ {told O w w'}, I told O w → (∀ k, k < w.heap.size → O k → w'.heap[k]? = w.heap[k]?) → w.heap.size ≤ w'.heap.size → I told O w'
 lt : ∀ {told O w}, I told O w → ∀ k, O k → k < w.heap.size
 step : ∀ {told O w0 w u x}, I told O w0 → Below w0.heap.size w0 w → intsT.Fr w0.heap.size w [u] x → x.length ≤ 64 → told.length ≤ 2000000 →
  Calls P g (#[.agg #[.int .i64 ar, u]] ++ caps) w fun e w' => e = .returned (.int .i64 (yc (told ++ [x]))) ∧ ∃ O', I (told ++ [x]) O' w' ∧ TchP O w w' ∧ ∀ k, O' k → O k ∨ w0.heap.size ≤ k
/-- how a search leaves memory -/
def SrR (e base : Nat) (ok : Nat → Prop) (bs : Nat) (t : Tpl) (ar : Int) (due : List (List (Int × List Int))) (fx : List Int) (I : List (List Int) → (Nat → Prop) → World → Prop) (w : World) (v : Value) (O : Nat → Prop) (vals : List Int) (R : FR) (w' : World) : Prop :=
 ∃ v' O', Fd ok w' bs t ar due fx ∧ Tb e base w' bs R.2.1 v' vals ∧ I R.2.2 O' w' ∧ (∀ k, O' k → O k ∨ w.heap.size ≤ k) ∧ (∀ k, v'.ownBlock = some k → ¬ O' k ∧ (v.ownBlock = some k ∨ w.heap.size ≤ k)) ∧ TchP (fun k => O k ∨ k = bs ∨ v.ownBlock = some k) w w'
theorem SrR.mk {e base : Nat} {ok : Nat → Prop} {bs : Nat} {t : Tpl} {ar : Int} {due : List (List (Int × List Int))} {fx : List Int} {I : List (List Int) → (Nat → Prop) → World → Prop} {w : World} {v : Value} {O : Nat → Prop} {vals : List Int} {R : FR} {w' : World} (v' : Value) (O' : Nat → Prop)
  (h1 : Fd ok w' bs t ar due fx) (h2 : Tb e base w' bs R.2.1 v' vals) (h3 : I R.2.2 O' w') (h4 : ∀ k, O' k → O k ∨ w.heap.size ≤ k) (h5 : ∀ k, v'.ownBlock = some k → ¬ O' k ∧ (v.ownBlock = some k ∨ w.heap.size ≤ k)) (h6 : TchP (fun k => O k ∨ k = bs ∨ v.ownBlock = some k) w w') : SrR e base ok bs t ar due fx I w v O vals R w' :=
 ⟨v', O', h1, h2, h3, h4, h5, h6⟩
end Go.Proofs.YtmnjlhcbabhhlaaGreatDoor
namespace Go.Proofs.YtmnjlhcbabhhlaaGreatDoor
open Go.RowKit Go.Sort
end Go.Proofs.YtmnjlhcbabhhlaaGreatDoor
namespace Go.Proofs.YtmnjlhcbabhhlaaGreatDoor
open Go.RowKit Go.Sort
abbrev ZP := (Int × List Int) × (Int × Value)
def zF (Z : List ZP) (v : Nat) : List ZP := Z.filter fun z => topI z.1.2 == (v : Int)
/-- blocks of what is finished -/
def okN (base N : Nat) (us : Nat → Value) (vin : Value) (k : Nat) : Prop := base ≤ k ∧ (∀ v, v < N → (us v).ownBlock ≠ some k) ∧ vin.ownBlock ≠ some k
structure FinS (B : Ty (List Bool)) (eL eR eB base N : Nat) (w : World) (g : Nat) (us : Nat → Value) (vin : Value) (Z : List ZP) (vs : List Value) (ins : List (List Bool)) : Prop where
 du : DU eL eR base w.heap.size w g N us (fun v => (zF Z v).map (·.2))
 zs : ∀ z ∈ Z, pvR (okN base N us vin) w z
 vi : Bl Ty.val eB base w.heap.size w vin vs
 bl : vs.length = ins.length
 br : ∀ i (h : i < vs.length) (h' : i < ins.length), B.RdP (okN base N us vin) w [vs[i]] ins[i]
 vu : ∀ v, v < N → ∀ k, (us v).ownBlock = some k → vin.ownBlock ≠ some k
section
variable {B : Ty (List Bool)} {eL eR eB base N g : Nat} {w w' : World} {us : Nat → Value} {vin : Value} {Z : List ZP} {vs : List Value} {ins : List (List Bool)}
theorem FinS.lt (h : FinS B eL eR eB base N w g us vin Z vs ins) : g < w.heap.size := h.du.lt
theorem FinS.below (h : FinS B eL eR eB base N w g us vin Z vs ins) (hB : base ≤ w.heap.size) (hb : Below w.heap.size w w') : FinS B eL eR eB base N w' g us vin Z vs ins :=
 ⟨(h.du.below hb (Nat.le_refl _) hB).mono hb.size, fun z hz => (h.zs z hz).below hb, (h.vi.below hb (Nat.le_refl _)).mono hb.size, h.bl, fun i h1 h2 => (h.br i h1 h2).below hb, h.vu⟩
/-- a cell of an older block -/
theorem FinS.set {b i : Nat} {u : Value} (h : FinS B eL eR eB base N w g us vin Z vs ins) (hb : b < base) (hg : b ≠ g) : FinS B eL eR eB base N (w.setCell ⟨b, i, none⟩ u) g us vin Z vs ins := by
 have ht : TchP (fun k => k = b) w (w.setCell ⟨b, i, none⟩ u) := TchP.set rfl
 have hk : ∀ k, k < w.heap.size → okN base N us vin k → ¬ (k = b) := fun k _ hk e => by have := hk.1; omega
 have hz : (w.setCell ⟨b, i, none⟩ u).heap.size = w.heap.size := by simp [World.setCell]
 have hh : ∀ k, k ≠ b → (w.setCell ⟨b, i, none⟩ u).heap[k]? = w.heap[k]? := fun k hk => Below.heap_setCell _ _ _ _ hk
 refine ⟨?_, fun z hz => (h.zs z hz).tchP ht hk, bl_val_same h.vi (fun q hq => hh q (by have := h.vi.ge hq; omega)) (by rw [hz]; exact Nat.le_refl _), h.bl, fun j h1 h2 => (h.br j h1 h2).tchP ht hk, h.vu⟩
 obtain ⟨d1, d2, d3, d4⟩ := h.du
 refine ⟨owns_same d1 (hh g (Ne.symm hg)), d2, fun v hv => ?_, d4⟩
 exact pv_same (d3 v hv) (fun q hq => hh q (by have := (d3 v hv).ge hq; omega)) (by rw [hz]; exact Nat.le_refl _)
theorem FinS.sets (h : FinS B eL eR eB base N w g us vin Z vs ins) (hB : B.sz = 1) (hn : vs.length ≤ 1000) : (Ty.slice B).RdP (fun k => k = g ∨ base ≤ k) w [vin] ins :=
 rows_ofP hB (bl_val_rdP h.vi (by unfold capMax; omega) (fun q hq => .inr (h.vi.ge hq))) h.bl (fun i h1 h2 => (h.br i h1 h2).mono (fun k _ hk => .inr hk.1))
end
/-- nothing is there yet -/
theorem FinS.start {B : Ty (List Bool)} {eL eR eB base N g : Nat} {w : World} (h : ∀ eA top, DU eA eR base top w g N (fun _ => .slice none 0 0) (fun _ => [])) : FinS B eL eR eB base N w g (fun _ => .slice none 0 0) (.slice none 0 0) [] [] [] :=
 ⟨by simpa [zF] using h eL w.heap.size, fun z hz => by simp at hz, Bl.nil, rfl, fun i h => by simp at h, fun v _ k hk => by simp [Value.ownBlock] at hk⟩
end Go.Proofs.YtmnjlhcbabhhlaaGreatDoor
namespace Go.Proofs.YtmnjlhcbabhhlaaGreatDoor
open Go.RowKit
section
variable {P : Program} {ops : Array Oper} {Q : Exit → Act → World → Prop} {md : Region.Mode} {S : World → Prop} {tail : List Nat}
end
end Go.Proofs.YtmnjlhcbabhhlaaGreatDoor
namespace Go.Proofs.YtmnjlhcbabhhlaaGreatDoor
open Go.RowKit Go.Sort
end Go.Proofs.YtmnjlhcbabhhlaaGreatDoor
namespace Go.Proofs.YtmnjlhcbabhhlaaGreatDoor
open Go.RowKit Go.Sort
/-- what the reference's search only reads: at block br -/
def Ru (ok : Nat → Prop) (w : World) (br : Nat) (t : Tpl) (ar : Int) (due : List (List (Int × List Int))) (fx : List Int) : Prop :=
 br < w.heap.size ∧ ∃ tb tw v2 v3 v4, w.cell? ⟨br, 0, none⟩ = some (.pointer (some ⟨tb, tw, none⟩)) ∧ tb < w.heap.size ∧ ok tb ∧ w.cell? ⟨tb, tw, none⟩ = some (.int .i64 t.1) ∧ w.cell? ⟨br, 1, none⟩ = some (.int .i64 ar) ∧ w.cell? ⟨br, 2, none⟩ = some v2 ∧ w.cell? ⟨br, 3, none⟩ = some v3 ∧ w.cell? ⟨br, 4, none⟩ = some v4 ∧
  (Ty.slice Ty.setp).RdP ok w [v2] (insF t) ∧ duesT.RdP ok w [v3] due ∧ intsT.RdP ok w [v4] fx
section
variable {ok ok' : Nat → Prop} {w w' : World} {br : Nat} {t : Tpl} {ar : Int} {due : List (List (Int × List Int))} {fx : List Int}
theorem Ru.below (h : Ru ok w br t ar due fx) (hb : Below w.heap.size w w') : Ru ok w' br t ar due fx := by
 obtain ⟨h1, tb, tw, v2, v3, v4, c0, ht, hk, ct, c1, c2, c3, c4, h3, h4, h5⟩ := h
 exact ⟨Nat.lt_of_lt_of_le h1 hb.size, tb, tw, v2, v3, v4, (hb.cell (p := ⟨br, 0, none⟩) h1).trans c0, Nat.lt_of_lt_of_le ht hb.size, hk, (hb.cell (p := ⟨tb, tw, none⟩) ht).trans ct, (hb.cell (p := ⟨br, 1, none⟩) h1).trans c1, (hb.cell (p := ⟨br, 2, none⟩) h1).trans c2, (hb.cell (p := ⟨br, 3, none⟩) h1).trans c3, (hb.cell (p := ⟨br, 4, none⟩) h1).trans c4, h3.below hb, h4.below hb, h5.below hb⟩
theorem Ru.tchP {O : Nat → Prop} (h : Ru ok w br t ar due fx) (ht : TchP O w w') (hO : ∀ k, k < w.heap.size → ok k → ¬ O k) (hb : ¬ O br) : Ru ok w' br t ar due fx := by
 obtain ⟨h1, tb, tw, v2, v3, v4, c0, htb, hk, ct, c1, c2, c3, c4, h3, h4, h5⟩ := h
 exact ⟨Nat.lt_of_lt_of_le h1 ht.size, tb, tw, v2, v3, v4, (ht.cell h1 hb).trans c0, Nat.lt_of_lt_of_le htb ht.size, hk, (ht.cell htb (hO tb htb hk)).trans ct, (ht.cell h1 hb).trans c1, (ht.cell h1 hb).trans c2, (ht.cell h1 hb).trans c3, (ht.cell h1 hb).trans c4, h3.tchP ht hO, h4.tchP ht hO, h5.tchP ht hO⟩
theorem Ru.set {i : Nat} {u : Value} (h : Ru ok w br t ar due fx) (hi : 5 ≤ i) (hO : ¬ ok br) : Ru ok (w.setCell ⟨br, i, none⟩ u) br t ar due fx := by
 obtain ⟨h1, tb, tw, v2, v3, v4, c0, htb, hk, ct, c1, c2, c3, c4, h3, h4, h5⟩ := h
 have hs : TchP (fun k => k = br) w (w.setCell ⟨br, i, none⟩ u) := TchP.set rfl
 have hkk : ∀ k, k < w.heap.size → ok k → ¬ (k = br) := fun k _ hk e => hO (e ▸ hk)
 have hc : ∀ j, j < 5 → (w.setCell ⟨br, i, none⟩ u).cell? ⟨br, j, none⟩ = w.cell? ⟨br, j, none⟩ := fun j hj => World.cell?_setCell_other _ _ _ _ (by first | (simp; done) | (simp; omega))
 exact ⟨by simpa [World.setCell] using h1, tb, tw, v2, v3, v4, (hc 0 (by omega)).trans c0, by simpa [World.setCell] using htb, hk, (hs.cell htb (hkk tb htb hk)).trans ct, (hc 1 (by omega)).trans c1, (hc 2 (by omega)).trans c2, (hc 3 (by omega)).trans c3, (hc 4 (by omega)).trans c4, h3.tchP hs hkk, h4.tchP hs hkk, h5.tchP hs hkk⟩
end
end Go.Proofs.YtmnjlhcbabhhlaaGreatDoor
namespace Go.Proofs.YtmnjlhcbabhhlaaGreatDoor
open Go.RowKit Go.Sort
section
variable {N : Nat} {pre : List Int} {cur v : Int}
end
/-- what the search turns: the table, the steps, whether it has begun -/
def Mc (e base : Nat) (w : World) (br gt N : Nat) (T : List Int) (st : Nat) (bg : Bool) : Prop :=
 br < w.heap.size ∧ w.cell? ⟨br, 5, none⟩ = some (.slice (some ⟨gt, 0, none⟩) N N) ∧ IR e base w gt N N T ∧ w.cell? ⟨br, 6, none⟩ = some (.int .i64 (st : Int)) ∧ w.cell? ⟨br, 7, none⟩ = some (.bool bg) ∧ w.frozen? ⟨br, 6, none⟩ = false ∧ w.frozen? ⟨br, 7, none⟩ = false
section
variable {e base br gt N st : Nat} {w w' : World} {T : List Int} {bg : Bool}
theorem IR.same {g n cap : Nat} {L : List Int} (h : IR e base w g n cap L) (hs : w'.heap[g]? = w.heap[g]?) : IR e base w' g n cap L := ⟨h.1, h.2.1, h.2.2.1, owns_same h.2.2.2 hs⟩
theorem Mc.same (h : Mc e base w br gt N T st bg) (h1 : w'.heap[br]? = w.heap[br]?) (h2 : w'.heap[gt]? = w.heap[gt]?) (hz : w.heap.size ≤ w'.heap.size) : Mc e base w' br gt N T st bg := by
 obtain ⟨h0, c5, hi, c6, c7, f6, f7⟩ := h
 exact ⟨Nat.lt_of_lt_of_le h0 hz, (World.cell?_of_block (a := ⟨br, 5, none⟩) h1).trans c5, hi.same h2, (World.cell?_of_block (a := ⟨br, 6, none⟩) h1).trans c6, (World.cell?_of_block (a := ⟨br, 7, none⟩) h1).trans c7, (World.frozen?_of_block (a := ⟨br, 6, none⟩) h1).trans f6, (World.frozen?_of_block (a := ⟨br, 7, none⟩) h1).trans f7⟩
theorem Mc.below (h : Mc e base w br gt N T st bg) (hb : Below w.heap.size w w') : Mc e base w' br gt N T st bg := h.same (hb.block br h.1) (hb.block gt h.2.2.1.lt) hb.size
end
/-- the box of the reference's search -/
def BxR (w : World) (br : Nat) (vt : Value) (ar : Int) (gd gf gt N : Nat) (vin : Value) : Prop :=
 br < w.heap.size ∧ w.cell? ⟨br, 0, none⟩ = some vt ∧ w.cell? ⟨br, 1, none⟩ = some (.int .i64 ar) ∧ w.cell? ⟨br, 2, none⟩ = some vin ∧ w.cell? ⟨br, 3, none⟩ = some (.slice (some ⟨gd, 0, none⟩) N N) ∧ w.cell? ⟨br, 4, none⟩ = some (.slice (some ⟨gf, 0, none⟩) N N) ∧ w.cell? ⟨br, 5, none⟩ = some (.slice (some ⟨gt, 0, none⟩) N N) ∧
  w.cell? ⟨br, 6, none⟩ = some (.int .i64 0) ∧ w.cell? ⟨br, 7, none⟩ = some (.bool false) ∧ w.frozen? ⟨br, 2, none⟩ = false ∧ w.frozen? ⟨br, 4, none⟩ = false ∧ w.frozen? ⟨br, 6, none⟩ = false ∧ w.frozen? ⟨br, 7, none⟩ = false
theorem BxR.same {w w' : World} {br : Nat} {vt : Value} {ar : Int} {gd gf gt N : Nat} {vin : Value} (h : BxR w br vt ar gd gf gt N vin) (hs : w'.heap[br]? = w.heap[br]?) (hz : w.heap.size ≤ w'.heap.size) : BxR w' br vt ar gd gf gt N vin := by
 obtain ⟨h0, c0, c1, c2, c3, c4, c5, c6, c7, f2, f4, f6, f7⟩ := h
 have c : ∀ i, w'.cell? ⟨br, i, none⟩ = w.cell? ⟨br, i, none⟩ := fun i => World.cell?_of_block (a := ⟨br, i, none⟩) hs
 have f : ∀ i, w'.frozen? ⟨br, i, none⟩ = w.frozen? ⟨br, i, none⟩ := fun i => World.frozen?_of_block (a := ⟨br, i, none⟩) hs
 exact ⟨Nat.lt_of_lt_of_le h0 hz, (c 0).trans c0, (c 1).trans c1, (c 2).trans c2, (c 3).trans c3, (c 4).trans c4, (c 5).trans c5, (c 6).trans c6, (c 7).trans c7, (f 2).trans f2, (f 4).trans f4, (f 6).trans f6, (f 7).trans f7⟩
theorem BxR.set {w : World} {br : Nat} {vt : Value} {ar : Int} {gd gf gt N : Nat} {vin v' : Value} (h : BxR w br vt ar gd gf gt N vin) : BxR (w.setCell ⟨br, 2, none⟩ v') br vt ar gd gf gt N v' := by
 obtain ⟨h0, c0, c1, c2, c3, c4, c5, c6, c7, f2, f4, f6, f7⟩ := h
 have c : ∀ i, i ≠ 2 → (w.setCell ⟨br, 2, none⟩ v').cell? ⟨br, i, none⟩ = w.cell? ⟨br, i, none⟩ := fun _ hi => World.cell?_setCell_other _ _ _ _ (fun e => hi (congrArg Addr.off e.symm))
 have f : ∀ i, (w.setCell ⟨br, 2, none⟩ v').frozen? ⟨br, i, none⟩ = w.frozen? ⟨br, i, none⟩ := fun i => World.frozen?_setCell _ _ _ _
 exact ⟨by simpa [World.setCell] using h0, (c 0 (by decide)).trans c0, (c 1 (by decide)).trans c1, World.cell?_setCell_same _ _ _ c2, (c 3 (by decide)).trans c3, (c 4 (by decide)).trans c4, (c 5 (by decide)).trans c5, (c 6 (by decide)).trans c6, (c 7 (by decide)).trans c7, (f 2).trans f2, (f 4).trans f4, (f 6).trans f6, (f 7).trans f7⟩
end Go.Proofs.YtmnjlhcbabhhlaaGreatDoor
namespace Go.Proofs.YtmnjlhcbabhhlaaGreatDoor
open Go.RowKit Go.Sort
section
variable {t : Tpl} {ar : Int}
end
theorem IR.fp {e base : Nat} {w : World} {g n cap : Nat} {L : List Int} (_h : IR e base w g n cap L) {fp : List Nat} (h2 : intsT.rd w [.slice (some ⟨g, 0, none⟩) n cap] L fp) : ∀ k ∈ fp, k = g := fun k hk => by
 obtain ⟨ad, cap', hv, -, -, h3⟩ := h2
 rcases h3 with ⟨_, rfl⟩ | ⟨_, b, o, fps, rfl, _, rfl, h4⟩
 ·cases hk
 ·simp only [List.cons.injEq, Value.slice.injEq, Option.some.injEq, Addr.mk.injEq, and_true] at hv
  obtain ⟨⟨rfl, rfl⟩, -, -⟩ := hv
  rcases List.mem_cons.1 hk with rfl | hk
  ·rfl
  ·obtain ⟨i, hi, hk⟩ := List.mem_flatMap.1 hk
   obtain ⟨cs, ⟨_, _, hf⟩, _⟩ := h4 i (by simpa using hi)
   rw [hf] at hk
   cases hk
section
variable {t : Tpl} {ar : Int}
end
theorem rdP_lt {α : Type} {E : Ty α} {ok : Nat → Prop} {w : World} {cs : List Value} {x : α} (h : E.RdP ok w cs x) : E.RdP (fun k => ok k ∧ k < w.heap.size) w cs x := let ⟨fp, h1, h2⟩ := h; ⟨fp, h1, fun k hk => ⟨h2 k hk, E.lt h1 k hk⟩⟩
theorem Ru.lt {ok : Nat → Prop} {w : World} {br : Nat} {t : Tpl} {ar : Int} {due : List (List (Int × List Int))} {fx : List Int} (h : Ru ok w br t ar due fx) : Ru (fun k => ok k ∧ k < w.heap.size) w br t ar due fx := by
 obtain ⟨h1, tb, tq, v2, v3, v4, c0, ht, hk, ct, c1, c2, c3, c4, h3, h4, h5⟩ := h
 exact ⟨h1, tb, tq, v2, v3, v4, c0, ht, ⟨hk, ht⟩, ct, c1, c2, c3, c4, rdP_lt h3, rdP_lt h4, rdP_lt h5⟩
end Go.Proofs.YtmnjlhcbabhhlaaGreatDoor
namespace Go.Proofs.YtmnjlhcbabhhlaaGreatDoor
open Go.RowKit Go.Sort
/-- what broken hands back: nil in the second place just if the relation is kept -/
def BrkR (b : Bool) (e : Ending) : Prop := ∃ a o m, e = .returned (.tuple #[a, .slice o m m]) ∧ (b = true → o = none ∧ m = 0) ∧ (b = false → ∃ g : Nat, o = some ⟨g, 0, none⟩)
theorem BrkR.no {b : Bool} {a : Value} {g m : Nat} (h : b = false) : BrkR b (.returned (.tuple #[a, .slice (some ⟨g, 0, none⟩) m m])) := ⟨a, _, m, rfl, (fun h' => by rw [h] at h'; cases h'), fun _ => ⟨g, rfl⟩⟩
end Go.Proofs.YtmnjlhcbabhhlaaGreatDoor
namespace Go.Proofs.YtmnjlhcbabhhlaaGreatDoor
open Go.RowKit Go.Sort
end Go.Proofs.YtmnjlhcbabhhlaaGreatDoor
namespace Go.Proofs.YtmnjlhcbabhhlaaGreatDoor
open Go.RowKit Go.Sort
end Go.Proofs.YtmnjlhcbabhhlaaGreatDoor
