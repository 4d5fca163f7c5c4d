/-
What a value reads as, in a world: numbers, slices, structs by value; which blocks hold it; that it stays while these blocks stay. No program is named here.
Contracts of the smallest functions: tests on numbers.
Slices of the call's own: built by append or by make and stores; what they read as, in which blocks; the law of an append in these words. No program is named here.
Contracts of the library's searches with a predicate (IndexFunc, ContainsFunc, EqualFunc) at each element type, by program (gen_lib.py); equality of lists of numbers.
Plain mathematics: the order of lists, valid relations and templates. No program is named here.
A region that draws its order, whose operations read, compute, and call functions that make new memory: one account serves every order. Of each operation's value only a predicate is told (a copy lies somewhere in new memory), and it must outlast new memory. No program is named here.
Contracts: lists of values, valid relations and templates, in the program and in the reference.
Contracts: valid relations and templates, in the program and in the reference.
Contracts: valid relations and templates (the program's), valid templates (the reference's).
Contracts: what a number of a relation tells; atoms' places; counts of formulas.
A region that draws its order, with loads ahead of writes: one condition on the world lets the loads be taken first; it need hold no more once one of the last writes ('tail') has come up. Every load waits for none of these, and these wait for every load. No program is named here.
-/
import Derived.WalkKit
import Derived.WalkLawsBesides
import Derived.WalkSpells
import Derived.Deep.QuietTactic
import Derived.BigQuiet
import Derived.Lib.Hide
import Derived.Test.YtmnjlhcbabhhlaaGreatDoorRows
import Derived.Lib.QuietBelow
import Derived.Deep.RegionHeld
import Derived.Below
namespace Go.Proofs.YtmnjlhcbabhhlaaGreatDoor
open Go.RowKit

def inB (a lo hi : Int) : Bool := decide (lo ≤ a) && decide (a ≤ hi)
theorem inB_lt {a lo hi : Int} (h : a < lo) : inB a lo hi = false := by simp [inB]; omega
theorem inB_le {a lo hi : Int} (h : lo ≤ a) : inB a lo hi = decide (a ≤ hi) := by simp [inB, h]
theorem inB_true {a lo hi : Int} : inB a lo hi = true ↔ lo ≤ a ∧ a ≤ hi := by simp [inB]
theorem ret_bool {a b : Bool} (h : a = b) : Ending.returned (.bool a) = .returned (.bool b) := by rw [h]
theorem ret_int {a b : Int} (h : a = b) : Ending.returned (.int .i64 a) = .returned (.int .i64 b) := by rw [h]

theorem ilt (a b : Int) : a < b ∨ b ≤ a := by omega
/-- equality as a test, behind a name -/
def eqB {α : Type} [DecidableEq α] (x y : α) : Bool := decide (x = y)
theorem eqB_len {α : Type} [DecidableEq α] {x y : List α} (h : x.length ≠ y.length) : eqB x y = false := decide_eq_false fun e => h (by rw [e])
theorem eqB_true {α : Type} [DecidableEq α] {x y : α} (h : x = y) : eqB x y = true := decide_eq_true h
theorem eqB_iff {α : Type} [DecidableEq α] {x y : α} : eqB x y = true ↔ x = y := decide_eq_true_iff
theorem eqB_get {α : Type} [DecidableEq α] {x y : List α} {k : Nat} (h : k < x.length) (h' : k < y.length) (hne : x[k] ≠ y[k]) : eqB x y = false :=
 decide_eq_false fun e => by subst e; exact hne rfl
theorem eqB_fst {α β : Type} [DecidableEq α] [DecidableEq β] {x y : α × β} (h : x.1 ≠ y.1) : eqB x y = false := decide_eq_false fun e => h (by rw [e])
theorem eqB_snd {α β : Type} [DecidableEq α] [DecidableEq β] {x y : α × β} {b : Bool} (h : x.1 = y.1) (hb : eqB x.2 y.2 = b) : eqB x y = b := by
 rw [← hb]
 obtain ⟨x1, x2⟩ := x
 obtain ⟨y1, y2⟩ := y
 obtain rfl : x1 = y1 := h
 simp [eqB]
theorem take_eq_succ {α : Type} {x y : List α} {k : Nat} (h : k < x.length) (h' : k < y.length) (ht : x.take k = y.take k) (he : x[k] = y[k]) : x.take (k + 1) = y.take (k + 1) := by
 rw [List.take_succ_eq_append_getElem h, List.take_succ_eq_append_getElem h', ht, he]
/-- the world after some draws -/
def Quiet (w w' : World) : Prop := ∃ n, w' = w.drewN n
theorem Quiet.refl (w : World) : Quiet w w := ⟨0, rfl⟩
theorem Quiet.drewN (w : World) (n : Nat) : Quiet w (w.drewN n) := ⟨n, rfl⟩
theorem Quiet.then {w w' w'' : World} (h : Quiet w w') (h' : Quiet w' w'') : Quiet w w'' := by
 obtain ⟨n, rfl⟩ := h
 obtain ⟨m, rfl⟩ := h'
 exact ⟨n + m, World.drewN_drewN _ _ _⟩
theorem Quiet.below {w w' : World} (h : Quiet w w') : Below w.heap.size w w' := by
 obtain ⟨n, rfl⟩ := h
 exact ⟨rfl, rfl, rfl, Nat.le_refl _, fun _ _ => rfl⟩
/-- a number of 64 bits -/
def I64 (n : Int) : Prop := -9223372036854775808 ≤ n ∧ n ≤ 9223372036854775807
theorem I64.of {n : Int} (h : (Lit.int .i64 n).wf = true) : I64 n := by simpa [Lit.wf, IntKind.min, IntKind.max, IntKind.signed, IntKind.bits, I64] using h
theorem I64.small {n : Int} (h : -1000000000000000000 ≤ n) (h' : n ≤ 1000000000000000000) : I64 n := ⟨by omega, by omega⟩

/-- the size of a world's heap, behind a name -/
def Same (fp : List Nat) (w w' : World) : Prop := ∀ k ∈ fp, w'.heap[k]? = w.heap[k]?
theorem Same.below {B : Nat} {w w' : World} {fp : List Nat} (h : Below B w w') (hf : ∀ k ∈ fp, k < B) : Same fp w w' := fun k hk => h.block k (hf k hk)
theorem Same.refl (fp : List Nat) (w : World) : Same fp w w := fun _ _ => rfl
theorem Same.trans {fp : List Nat} {a b c : World} (h : Same fp a b) (h' : Same fp b c) : Same fp a c := fun k hk => (h' k hk).trans (h k hk)

theorem cell_lt {w : World} {b o : Nat} {v : Value} (h : w.cell? ⟨b, o, none⟩ = some v) : b < w.heap.size := by
 rcases Nat.lt_or_ge b w.heap.size with h' | h'
 ·exact h'
 ·simp [World.cell?, Array.getElem?_eq_none h'] at h

/-- a kind of datum: how many cells it takes, and what it is to read as one, through which blocks -/
structure Ty (α : Type) where
 sz : Nat
 rd : World → List Value → α → List Nat → Prop
 len : ∀ {w cs x fp}, rd w cs x fp → cs.length = sz
 same : ∀ {w w' cs x fp}, rd w cs x fp → Same fp w w' → rd w' cs x fp
 lt : ∀ {w cs x fp}, rd w cs x fp → ∀ k ∈ fp, k < w.heap.size
 one : ∀ {w cs x fp}, rd w cs x fp → ∀ u ∈ cs, u.oneCell' = true

def Ty.Rd {α : Type} (E : Ty α) (w : World) (cs : List Value) (x : α) : Prop := ∃ fp, E.rd w cs x fp
theorem Ty.Rd.below {α : Type} {E : Ty α} {w w' : World} {cs : List Value} {x : α} (h : E.Rd w cs x) (hb : Below w.heap.size w w') : E.Rd w' cs x :=
 let ⟨fp, h⟩ := h; ⟨fp, E.same h (Same.below hb (E.lt h))⟩
/-- read in blocks below B -/
def Ty.RdB {α : Type} (E : Ty α) (B : Nat) (w : World) (cs : List Value) (x : α) : Prop := ∃ fp, E.rd w cs x fp ∧ ∀ k ∈ fp, k < B
theorem Ty.RdB.rd {α : Type} {E : Ty α} {B : Nat} {w : World} {cs : List Value} {x : α} (h : E.RdB B w cs x) : E.Rd w cs x := let ⟨fp, h, _⟩ := h; ⟨fp, h⟩
theorem Ty.Rd.B {α : Type} {E : Ty α} {w : World} {cs : List Value} {x : α} (h : E.Rd w cs x) : E.RdB w.heap.size w cs x := let ⟨fp, h⟩ := h; ⟨fp, h, E.lt h⟩
theorem Ty.RdB.below {α : Type} {E : Ty α} {B B' : Nat} {w w' : World} {cs : List Value} {x : α} (h : E.RdB B w cs x) (hb : Below B' w w') (hB : B ≤ B') : E.RdB B w' cs x :=
 let ⟨fp, h, hf⟩ := h; ⟨fp, E.same h (fun k hk => hb.block k (Nat.lt_of_lt_of_le (hf k hk) hB)), hf⟩
theorem Ty.RdB.mono {α : Type} {E : Ty α} {B B' : Nat} {w : World} {cs : List Value} {x : α} (h : E.RdB B w cs x) (hB : B ≤ B') : E.RdB B' w cs x :=
 let ⟨fp, h, hf⟩ := h; ⟨fp, h, fun k hk => Nat.lt_of_lt_of_le (hf k hk) hB⟩

def Ty.int : Ty Int where
 sz := 1
 rd := fun _ cs n fp => cs = [.int .i64 n] ∧ I64 n ∧ fp = []
 len := by rintro _ _ _ _ ⟨rfl, _, _⟩; rfl
 same := fun h _ => h
 lt := by rintro _ _ _ _ ⟨rfl, _, rfl⟩ k hk; cases hk
 one := by rintro _ _ _ _ ⟨rfl, _, _⟩ u hu; simp at hu; subst hu; rfl

def Ty.bool : Ty Bool where
 sz := 1
 rd := fun _ cs n fp => cs = [.bool n] ∧ fp = []
 len := by rintro _ _ _ _ ⟨rfl, _⟩; rfl
 same := fun h _ => h
 lt := by rintro _ _ _ _ ⟨rfl, rfl⟩ k hk; cases hk
 one := by rintro _ _ _ _ ⟨rfl, _⟩ u hu; simp at hu; subst hu; rfl

/-- a bound on every slice's capacity -/
def capMax : Nat := 140737488351232

/-- the cells of a row of elements -/
def rowRd {α : Type} (E : Ty α) (w : World) (b o : Nat) (xs : List α) (fps : Nat → List Nat) : Prop :=
 ∀ i (h : i < xs.length), ∃ cs, E.rd w cs xs[i] (fps i) ∧ ∀ j (hj : j < cs.length), w.cell? ⟨b, o + i * E.sz + j, none⟩ = some cs[j]

def sliceRd {α : Type} (E : Ty α) (w : World) (cs : List Value) (xs : List α) (fp : List Nat) : Prop :=
 ∃ ad cap, cs = [.slice ad xs.length cap] ∧ xs.length ≤ cap ∧ xs.length ≤ capMax ∧
  ((xs.length = 0 ∧ fp = []) ∨ (0 < xs.length ∧ ∃ b o fps, ad = some ⟨b, o, none⟩ ∧ b < w.heap.size ∧ fp = b :: (List.range xs.length).flatMap fps ∧ rowRd E w b o xs fps))

theorem rowRd.same {α : Type} {E : Ty α} {w w' : World} {b o : Nat} {xs : List α} {fps : Nat → List Nat} (h : rowRd E w b o xs fps) (hs : Same (b :: (List.range xs.length).flatMap fps) w w') : rowRd E w' b o xs fps := by
 intro i hi
 obtain ⟨cs, h1, h2⟩ := h i hi
 refine ⟨cs, E.same h1 fun k hk => hs k (List.mem_cons_of_mem _ (List.mem_flatMap.2 ⟨i, by simpa using hi, hk⟩)), fun j hj => ?_⟩
 rw [← h2 j hj]
 exact World.cell?_of_block (hs b (List.mem_cons_self ..))

def Ty.slice {α : Type} (E : Ty α) : Ty (List α) where
 sz := 1
 rd := sliceRd E
 len := by rintro _ _ _ _ ⟨_, _, rfl, _⟩; rfl
 same := by
  rintro w w' _ xs fp ⟨ad, cap, rfl, h1, h2, h3⟩ hs
  refine ⟨ad, cap, rfl, h1, h2, ?_⟩
  rcases h3 with h3 | ⟨h3, b, o, fps, rfl, hb, rfl, h4⟩
  ·exact .inl h3
  ·refine .inr ⟨h3, b, o, fps, rfl, ?_, rfl, h4.same hs⟩
   have := hs b (List.mem_cons_self ..)
   rcases Nat.lt_or_ge b w'.heap.size with h' | h'
   ·exact h'
   ·rw [Array.getElem?_eq_none h', Array.getElem?_eq_getElem hb] at this
    cases this
 lt := by
  rintro w _ xs fp ⟨ad, cap, rfl, h1, h2, h3⟩ k hk
  rcases h3 with ⟨_, rfl⟩ | ⟨h3, b, o, fps, rfl, hb, rfl, h4⟩
  ·cases hk
  ·rcases List.mem_cons.1 hk with rfl | hk
   ·exact hb
   ·obtain ⟨i, hi, hk⟩ := List.mem_flatMap.1 hk
    obtain ⟨cs, h5, _⟩ := h4 i (by simpa using hi)
    exact E.lt h5 k hk
 one := by rintro _ _ _ _ ⟨_, _, rfl, _⟩ u hu; simp at hu; subst hu; rfl

/-- a number, and behind it something else: a struct -/
def Ty.cons {α : Type} (E : Ty α) : Ty (Int × α) where
 sz := 1 + E.sz
 rd := fun w cs x fp => ∃ cs', cs = .int .i64 x.1 :: cs' ∧ I64 x.1 ∧ E.rd w cs' x.2 fp
 len := by rintro _ _ _ _ ⟨cs', rfl, _, h⟩; rw [List.length_cons, E.len h]; omega
 same := by rintro _ _ _ _ _ ⟨cs', rfl, h1, h⟩ hs; exact ⟨cs', rfl, h1, E.same h hs⟩
 lt := by rintro _ _ _ _ ⟨cs', rfl, _, h⟩; exact E.lt h
 one := by
  rintro _ _ _ _ ⟨cs', rfl, _, h⟩ u hu
  rcases List.mem_cons.1 hu with rfl | hu
  ·rfl
  ·exact E.one h u hu

abbrev intsT : Ty (List Int) := Ty.slice Ty.int
abbrev rowsT : Ty (List (List Int)) := Ty.slice intsT
abbrev relT : Ty (Int × List (List Int)) := Ty.cons rowsT
abbrev relsT : Ty (List (Int × List (List Int))) := Ty.slice relT
abbrev tplT : Ty (Int × List (Int × List (List Int))) := Ty.cons relsT
abbrev opT : Ty (Int × List Int) := Ty.cons intsT
abbrev opsT : Ty (List (Int × List Int)) := Ty.slice opT
abbrev frmT : Ty (Int × Int × List (Int × List Int)) := Ty.cons (Ty.cons opsT)

/-! what a reading gives -/
theorem Ty.slice_ex {α : Type} {E : Ty α} {w : World} {cs : List Value} {xs : List α} (h : (Ty.slice E).Rd w cs xs) :
  ∃ ad cap, cs = [.slice ad xs.length cap] ∧ xs.length ≤ cap ∧ xs.length ≤ 140737488351232 ∧
   (0 < xs.length → ∃ b o, ad = some ⟨b, o, none⟩ ∧ b < w.heap.size ∧ ∀ i (h : i < xs.length), ∃ cs, E.Rd w cs xs[i] ∧ ∀ j (hj : j < cs.length), w.cell? ⟨b, o + i * E.sz + j, none⟩ = some cs[j]) := by
 obtain ⟨fp, ad, cap, rfl, h1, h2, h3⟩ := h
 refine ⟨ad, cap, rfl, h1, h2, fun hp => ?_⟩
 rcases h3 with h3 | ⟨h3, b, o, fps, rfl, hb, rfl, h4⟩
 ·omega
 ·exact ⟨b, o, rfl, hb, fun i hi => let ⟨cs, h5, h6⟩ := h4 i hi; ⟨cs, ⟨_, h5⟩, h6⟩⟩

theorem ints_ex {w : World} {cs : List Value} {xs : List Int} (h : intsT.Rd w cs xs) :
  ∃ ad cap, cs = [.slice ad xs.length cap] ∧ xs.length ≤ cap ∧ xs.length ≤ 140737488351232 ∧
   (0 < xs.length → ∃ b o, ad = some ⟨b, o, none⟩ ∧ b < w.heap.size ∧ ∀ i (h : i < xs.length), I64 xs[i] ∧ w.cell? ⟨b, o + i, none⟩ = some (.int .i64 xs[i])) := by
 obtain ⟨ad, cap, h1, h2, h3, h4⟩ := Ty.slice_ex h
 refine ⟨ad, cap, h1, h2, h3, fun hp => ?_⟩
 obtain ⟨b, o, h5, h6, h7⟩ := h4 hp
 refine ⟨b, o, h5, h6, fun i hi => ?_⟩
 obtain ⟨cs, ⟨fp, rfl, h8, h9⟩, h10⟩ := h7 i hi
 exact ⟨h8, by simpa [Ty.int] using h10 0 (by simp)⟩

/-- a row of structs of two cells: a number and a slice -/
theorem pairs_ex {α : Type} {E : Ty α} {w : World} {cs : List Value} {xs : List (Int × List α)} (h : (Ty.slice (Ty.cons (Ty.slice E))).Rd w cs xs) :
  ∃ ad cap, cs = [.slice ad xs.length cap] ∧ xs.length ≤ cap ∧ xs.length ≤ 140737488351232 ∧
   (0 < xs.length → ∃ b o, ad = some ⟨b, o, none⟩ ∧ b < w.heap.size ∧ ∀ i (h : i < xs.length), ∃ v, (Ty.slice E).Rd w [v] xs[i].2 ∧ I64 xs[i].1 ∧
    w.cell? ⟨b, o + i * 2, none⟩ = some (.int .i64 xs[i].1) ∧ w.cell? ⟨b, o + i * 2 + 1, none⟩ = some v) := by
 obtain ⟨ad, cap, h1, h2, h3, h4⟩ := Ty.slice_ex h
 refine ⟨ad, cap, h1, h2, h3, fun hp => ?_⟩
 obtain ⟨b, o, h5, h6, h7⟩ := h4 hp
 refine ⟨b, o, h5, h6, fun i hi => ?_⟩
 obtain ⟨cs, ⟨fp, cs', rfl, hI, h8⟩, h10⟩ := h7 i hi
 obtain ⟨_, _, rfl, _⟩ := id h8
 exact ⟨_, ⟨_, h8⟩, hI, by simpa [Ty.slice, Ty.cons] using h10 0 (by simp), by simpa [Ty.slice, Ty.cons] using h10 1 (by simp)⟩

theorem rd_slice {α : Type} {E : Ty α} {w : World} {u : Value} {x : List α} (h : (Ty.slice E).Rd w [u] x) : ∃ ad cap, u = .slice ad x.length cap :=
 let ⟨_, ad, cap, hu, _⟩ := h; ⟨ad, cap, by simpa using hu⟩
theorem pair_ex {α : Type} {E : Ty α} {w : World} {cs : List Value} {x : Int × List α} (h : (Ty.cons (Ty.slice E)).Rd w cs x) :
  ∃ v, cs = [.int .i64 x.1, v] ∧ I64 x.1 ∧ (Ty.slice E).Rd w [v] x.2 := by
 obtain ⟨fp, cs', rfl, h1, h2⟩ := h
 obtain ⟨_, _, rfl, _⟩ := id h2
 exact ⟨_, rfl, h1, _, h2⟩
theorem pair_mk {α : Type} {E : Ty α} {w : World} {n : Int} {v : Value} {x : List α} (h1 : I64 n) (h : (Ty.slice E).Rd w [v] x) : (Ty.cons (Ty.slice E)).Rd w [.int .i64 n, v] (n, x) :=
 let ⟨fp, h⟩ := h; ⟨fp, _, rfl, h1, h⟩
theorem trip_ex {α : Type} {E : Ty α} {w : World} {cs : List Value} {x : Int × Int × List α} (h : (Ty.cons (Ty.cons (Ty.slice E))).Rd w cs x) :
  ∃ v, cs = [.int .i64 x.1, .int .i64 x.2.1, v] ∧ I64 x.1 ∧ I64 x.2.1 ∧ (Ty.slice E).Rd w [v] x.2.2 := by
 obtain ⟨fp, cs', rfl, h1, h2⟩ := h
 obtain ⟨v, rfl, h3, h4⟩ := pair_ex ⟨fp, h2⟩
 exact ⟨v, rfl, h1, h3, h4⟩
theorem bA {w : World} {o : Obj} : Below w.heap.size w (w.alloc o) := (Below.refl _ _).alloc (Nat.le_refl _) _
theorem bthen {w w1 w2 : World} (h : Below w.heap.size w w1) (h' : Below w1.heap.size w1 w2) : Below w.heap.size w w2 := h.trans (h'.mono h.size)
theorem bDN {B : Nat} {a w : World} {n : Nat} (h : Below B a w) : Below B a (w.drewN n) := ⟨h.os, h.tape, h.output, h.size, h.block⟩
theorem bD {w : World} : Below w.heap.size w w.drew := (Below.refl _ _).drew

def sumL {α : Type} (f : α → Int) : List α → Int
 | [] => 0
 | x :: r => f x + sumL f r
theorem sumL_append {α : Type} (f : α → Int) (a b : List α) : sumL f (a ++ b) = sumL f a + sumL f b := by
 induction a with
 | nil => simp [sumL]
 | cons x a ih => simp only [List.cons_append, sumL, ih]; omega
theorem sumL_succ {α : Type} (f : α → Int) {xs : List α} {k : Nat} (h : k < xs.length) : sumL f (xs.take (k + 1)) = sumL f (xs.take k) + f xs[k] := by
 rw [List.take_succ_eq_append_getElem h, sumL_append]; simp [sumL]
theorem sumL_nonneg {α : Type} {f : α → Int} (hf : ∀ x, 0 ≤ f x) (xs : List α) : 0 ≤ sumL f xs := by
 induction xs with
 | nil => exact Int.le_refl _
 | cons x r ih => have := hf x; simp only [sumL]; omega
theorem sumL_take_le {α : Type} {f : α → Int} (hf : ∀ x, 0 ≤ f x) (xs : List α) (k : Nat) : sumL f (xs.take k) ≤ sumL f xs := by
 have h := sumL_append f (xs.take k) (xs.drop k)
 rw [List.take_append_drop] at h
 have := sumL_nonneg hf (xs.drop k)
 omega

/-- the first place at which p holds, or -1; whether there is one -/
def firstI {α : Type} (p : α → Bool) (xs : List α) : Int := match xs.findIdx? p with | some i => i | none => -1
def anyB {α : Type} (p : α → Bool) (xs : List α) : Bool := xs.any p
def noneB {α : Type} (p : α → Bool) (xs : List α) : Prop := ∀ x ∈ xs, p x = false
theorem noneB_zero {α : Type} (p : α → Bool) (xs : List α) : noneB p (xs.take 0) := by intro x hx; simp at hx
theorem noneB_succ {α : Type} {p : α → Bool} {xs : List α} {k : Nat} (h : k < xs.length) (ht : noneB p (xs.take k)) (hq : p xs[k] = false) : noneB p (xs.take (k + 1)) := by
 intro x hx
 rw [List.take_succ_eq_append_getElem h, List.mem_append] at hx
 rcases hx with hx | hx
 ·exact ht x hx
 ·simp at hx; rw [hx]; exact hq
theorem firstI_none {α : Type} {p : α → Bool} {xs : List α} (h : noneB p xs) : firstI p xs = -1 := by
 have : xs.findIdx? p = none := by rw [List.findIdx?_eq_none_iff]; exact h
 simp [firstI, this]
theorem firstI_at {α : Type} {p : α → Bool} {xs : List α} {k : Nat} (h : k < xs.length) (ht : noneB p (xs.take k)) (hq : p xs[k] = true) : firstI p xs = k := by
 have : xs.findIdx? p = some k := by
  rw [List.findIdx?_eq_some_iff_getElem]
  refine ⟨h, hq, fun j hj => ?_⟩
  have hj' : j < (xs.take k).length := by rw [List.length_take]; omega
  have := ht (xs.take k)[j] (List.getElem_mem hj')
  rw [List.getElem_take] at this
  simp [this]
 simp [firstI, this]
theorem firstI_any {α : Type} (p : α → Bool) (xs : List α) : decide (0 ≤ firstI p xs) = anyB p xs := by
 unfold firstI anyB
 cases h : xs.findIdx? p with
 | none => rw [List.findIdx?_eq_none_iff] at h; simp; exact h
 | some i =>
  rw [List.findIdx?_eq_some_iff_getElem] at h
  obtain ⟨h1, h2, _⟩ := h
  simp
  exact ⟨_, List.getElem_mem h1, h2⟩
theorem enters {P : Program} {f : FuncId} {fn : Func} {c : Code} (hf : P.funcs[f]? = some fn) (hname : (fn.name == "runtime.NumGoroutine") = false) (hb : fn.body = some c) : ∀ args w, (callFunc f args).run P w = .ok (.enter f args) w := by
 intro args w
 have h1 : fn.name ≠ "runtime.NumGoroutine" := by simpa using hname
 simp [callFunc, hf, h1, hb, mark]

theorem agg_of {cs : Array Value} {l : List Value} (h : cs.toList = l) : cs = l.toArray := by rw [← h]

/-- a pointer to a datum -/
def Ty.Pt {α : Type} (E : Ty α) (w : World) (v : Value) (x : α) : Prop := ∃ b o cs, v = .pointer (some ⟨b, o, none⟩) ∧ b < w.heap.size ∧ E.Rd w cs x ∧ ∀ j (hj : j < cs.length), w.cell? ⟨b, o + j, none⟩ = some cs[j]
theorem Ty.Pt.below {α : Type} {E : Ty α} {w w' : World} {v : Value} {x : α} (h : E.Pt w v x) (hb : Below w.heap.size w w') : E.Pt w' v x :=
 let ⟨b, o, cs, h1, h2, h3, h4⟩ := h
 ⟨b, o, cs, h1, Nat.lt_of_lt_of_le h2 hb.size, h3.below hb, fun j hj => (hb.cell h2).trans (h4 j hj)⟩
theorem pt_box {α : Type} {E : Ty α} {w : World} {cs : List Value} {x : α} {T : TypeId} (h : E.Rd w cs x) : E.Pt (w.alloc (.cells cs.toArray T)) (.pointer (some ⟨w.heap.size, 0, none⟩)) x :=
 ⟨_, 0, cs, rfl, by simp, h.below bA, fun j hj => by unfold World.cell?; rw [heap_alloc_new]; simp [hj]⟩
theorem pt_pair {α : Type} {E : Ty α} {w : World} {v : Value} {x : Int × List α} (h : (Ty.cons (Ty.slice E)).Pt w v x) :
  ∃ b o ad cap, v = .pointer (some ⟨b, o, none⟩) ∧ b < w.heap.size ∧ I64 x.1 ∧ w.cell? ⟨b, o, none⟩ = some (.int .i64 x.1) ∧ w.cell? ⟨b, o + 1, none⟩ = some (.slice ad x.2.length cap) ∧ (Ty.slice E).Rd w [.slice ad x.2.length cap] x.2 := by
 obtain ⟨b, o, cs, rfl, hb, h, hc⟩ := h
 obtain ⟨u, rfl, hI, hu⟩ := pair_ex h
 obtain ⟨ad, cap, rfl⟩ := rd_slice hu
 exact ⟨b, o, ad, cap, rfl, hb, hI, by simpa using hc 0 (by simp), by simpa using hc 1 (by simp), hu⟩
theorem pt_trip {α : Type} {E : Ty α} {w : World} {v : Value} {x : Int × Int × List α} (h : (Ty.cons (Ty.cons (Ty.slice E))).Pt w v x) :
  ∃ b o ad cap, v = .pointer (some ⟨b, o, none⟩) ∧ b < w.heap.size ∧ I64 x.1 ∧ I64 x.2.1 ∧ w.cell? ⟨b, o, none⟩ = some (.int .i64 x.1) ∧ w.cell? ⟨b, o + 1, none⟩ = some (.int .i64 x.2.1) ∧ w.cell? ⟨b, o + 2, none⟩ = some (.slice ad x.2.2.length cap) ∧ (Ty.slice E).Rd w [.slice ad x.2.2.length cap] x.2.2 := by
 obtain ⟨b, o, cs, rfl, hb, h, hc⟩ := h
 obtain ⟨u, rfl, hI, hI2, hu⟩ := trip_ex h
 obtain ⟨ad, cap, rfl⟩ := rd_slice hu
 exact ⟨b, o, ad, cap, rfl, hb, hI, hI2, by simpa using hc 0 (by simp), by simpa using hc 1 (by simp), by simpa using hc 2 (by simp), hu⟩
theorem pt_elem {α : Type} {E : Ty α} {w : World} {b o n cap : Nat} {xs : List α} (h : (Ty.slice E).Rd w [.slice (some ⟨b, o, none⟩) n cap] xs) {k : Nat} (hk : k < xs.length) : E.Pt w (.pointer (some ⟨b, o + k * E.sz, none⟩)) xs[k] := by
 obtain ⟨ad, cap', hv, _, _, h3⟩ := Ty.slice_ex h
 simp only [List.cons.injEq, Value.slice.injEq, and_true] at hv
 obtain ⟨rfl, rfl, rfl⟩ := hv
 obtain ⟨b', o', he, hb, h4⟩ := h3 (by omega)
 simp only [Option.some.injEq, Addr.mk.injEq, and_true] at he
 obtain ⟨rfl, rfl⟩ := he
 obtain ⟨cs, h5, h6⟩ := h4 k hk
 exact ⟨b, _, cs, rfl, hb, h5, h6⟩

/-- all old cells and marks read as before -/
theorem bcell {W w1 : World} (hb : Below W.heap.size W w1) : (∀ b o, b < W.heap.size → w1.cell? ⟨b, o, none⟩ = W.cell? ⟨b, o, none⟩) ∧ (∀ b o, b < W.heap.size → w1.frozen? ⟨b, o, none⟩ = W.frozen? ⟨b, o, none⟩) :=
 ⟨fun b o h => hb.cell (p := ⟨b, o, none⟩) h, fun b o h => hb.frozen (p := ⟨b, o, none⟩) h⟩
end Go.Proofs.YtmnjlhcbabhhlaaGreatDoor
namespace Go.Proofs.YtmnjlhcbabhhlaaGreatDoor
open Go.RowKit
theorem l00In_any (a lo hi : Int) (w : World) : Calls Tryz.prog 21 #[.int .i64 a, .int .i64 lo, .int .i64 hi] w fun e w' => e = .returned (.bool (inB a lo hi)) ∧ w = w' := by
 go_enter Tryz.func21, Tryz.ntmps21
 go_wp2
 all_goals
  go_ret
  exact ⟨ret_bool (by first | rw [inB_le (by assumption)] | rw [inB_lt (by assumption)]), rfl⟩
theorem within_any (a lo hi : Int) (w : World) : Calls Tryz.prog 48 #[.int .i64 a, .int .i64 lo, .int .i64 hi] w fun e w' => e = .returned (.bool (inB a lo hi)) ∧ w = w' := by
 go_enter Tryz.func48, Tryz.ntmps48
 go_wp2
 all_goals
  go_ret
  exact ⟨ret_bool (by first | rw [inB_le (by assumption)] | rw [inB_lt (by assumption)]), rfl⟩
theorem isArity_any (a : Int) (w : World) : Calls Tryz.prog 49 #[.int .i64 a] w fun e w' => e = .returned (.bool (inB a 1 4)) ∧ w = w' := by
 go_enter Tryz.func49, Tryz.ntmps49
 go_wp2_with (go_at_call 48; refine (within_any _ _ _ _).mono ?_; rintro e w' ⟨rfl, rfl⟩)
 go_ret
 exact ⟨rfl, rfl⟩
theorem l01Arity_any (a : Int) (w : World) : Calls Tryz.prog 22 #[.int .i64 a] w fun e w' => e = .returned (.bool (inB a 1 4)) ∧ w = w' := by
 go_enter Tryz.func22, Tryz.ntmps22
 go_wp2_with (go_at_call 21; refine (l00In_any _ _ _ _).mono ?_; rintro e w' ⟨rfl, rfl⟩)
 go_ret
 exact ⟨rfl, rfl⟩
theorem isValue_any (size a : Int) (w : World) (h0 : 0 ≤ size) (h1 : size ≤ 1000000000000) : Calls Tryz.prog 86 #[.int .i64 size, .int .i64 a] w fun e w' => e = .returned (.bool (inB a 0 (size - 1))) ∧ w = w' := by
 go_enter Tryz.func86, Tryz.ntmps86
 go_wp2_with (go_at_call 48; refine (within_any _ _ _ _).mono ?_; rintro e w' ⟨rfl, rfl⟩)
 go_ret
 exact ⟨rfl, rfl⟩
end Go.Proofs.YtmnjlhcbabhhlaaGreatDoor
namespace Go.Proofs.YtmnjlhcbabhhlaaGreatDoor
open Go.RowKit

def Unf (w : World) (fp : List Nat) : Prop := ∀ b ∈ fp, ∀ o, w.frozen? ⟨b, o, none⟩ = false
theorem Unf.same {w w' : World} {fp : List Nat} (h : Unf w fp) (hs : Same fp w w') : Unf w' fp := fun b hb o => by
 rw [World.frozen?_of_block (w := w) (a := ⟨b, o, none⟩) (hs b hb)]; exact h b hb o

/-- read in blocks from base on, each once, none of them frozen: new memory that nothing else shares -/
def Ty.Fr {α : Type} (E : Ty α) (base : Nat) (w : World) (cs : List Value) (x : α) : Prop := ∃ fp, E.rd w cs x fp ∧ fp.Nodup ∧ (∀ b ∈ fp, base ≤ b) ∧ Unf w fp
theorem Ty.Fr.rd {α : Type} {E : Ty α} {base : Nat} {w : World} {cs : List Value} {x : α} (h : E.Fr base w cs x) : E.Rd w cs x := let ⟨fp, h, _⟩ := h; ⟨fp, h⟩
theorem Ty.Fr.mono {α : Type} {E : Ty α} {base base' : Nat} {w : World} {cs : List Value} {x : α} (h : E.Fr base w cs x) (hb : base' ≤ base) : E.Fr base' w cs x :=
 let ⟨fp, h1, h2, h3, h4⟩ := h; ⟨fp, h1, h2, fun b hb' => Nat.le_trans hb (h3 b hb'), h4⟩
theorem Ty.Fr.below {α : Type} {E : Ty α} {base : Nat} {w w' : World} {cs : List Value} {x : α} (h : E.Fr base w cs x) (hb : Below w.heap.size w w') : E.Fr base w' cs x :=
 let ⟨fp, h1, h2, h3, h4⟩ := h
 have hs : Same fp w w' := Same.below hb (E.lt h1)
 ⟨fp, E.same h1 hs, h2, h3, h4.same hs⟩
theorem fr_int {base : Nat} {w : World} {n : Int} (h : I64 n) : Ty.int.Fr base w [.int .i64 n] n := ⟨[], ⟨rfl, h, rfl⟩, List.nodup_nil, by simp, fun b hb => by cases hb⟩
theorem fr_cons {α : Type} {E : Ty α} {base : Nat} {w : World} {cs : List Value} {n : Int} {x : α} (h0 : I64 n) (h : E.Fr base w cs x) : (Ty.cons E).Fr base w (.int .i64 n :: cs) (n, x) :=
 let ⟨fp, h1, h2⟩ := h; ⟨fp, ⟨cs, rfl, h0, h1⟩, h2⟩
theorem fr_nil {α : Type} {E : Ty α} {base : Nat} {w : World} {ad : Option Addr} {cap : Nat} : (Ty.slice E).Fr base w [.slice ad 0 cap] [] :=
 ⟨[], ⟨ad, cap, rfl, Nat.zero_le _, Nat.zero_le _, .inl ⟨rfl, rfl⟩⟩, List.nodup_nil, by simp, fun b hb => by cases hb⟩

def els {α : Type} (E : Ty α) (w : World) (L : List Value) (ys : List α) (fps : Nat → List Nat) : Prop :=
 ∀ i (h : i < ys.length), ∃ cs, E.rd w cs ys[i] (fps i) ∧ ∀ j (hj : j < cs.length), L[i * E.sz + j]? = some cs[j]

abbrev flat (fps : Nat → List Nat) (n : Nat) : List Nat := (List.range n).flatMap fps

/-- a slice of the call's own that grows by append: its elements read as ys; every block lies in [base, top) -/
def Bl {α : Type} (E : Ty α) (e base top : Nat) (w : World) (v : Value) (ys : List α) : Prop :=
 ∃ L fps, w.ownsRow base e E.sz v ys.length L ∧ els E w L ys fps ∧ (flat fps ys.length).Nodup ∧ (∀ b ∈ flat fps ys.length, base ≤ b ∧ b < top ∧ v.ownBlock ≠ some b) ∧ (∀ g, v.ownBlock = some g → g < top) ∧ Unf w (flat fps ys.length)

section
variable {α : Type} {E : Ty α} {e base top : Nat} {w w' : World} {v : Value} {ys : List α}

theorem Bl.nil : Bl E e base top w (.slice none 0 0) [] :=
 ⟨[], fun _ => [], World.ownsRow_nil w base e E.sz, fun i h => by simp at h, by simp [flat], by simp [flat], by simp [Value.ownBlock], fun b hb => by simp [flat] at hb⟩

theorem Bl.lit0 (hb : base ≤ w.heap.size) : Bl E e base (w.heap.size + 1) (w.alloc (.cells #[] e)) (.slice (some ⟨w.heap.size, 0, none⟩) 0 0) [] :=
 ⟨[], fun _ => [], World.ownsRow_lit w #[] 0 hb (Nat.zero_le _) (by simp), fun i h => by simp at h, by simp [flat], by simp [flat], by simp [Value.ownBlock], fun b hb => by simp [flat] at hb⟩

theorem Bl.mono {top' : Nat} (h : Bl E e base top w v ys) (ht : top ≤ top') : Bl E e base top' w v ys :=
 let ⟨L, fps, h1, h2, h3, h4, h5, h6⟩ := h
 ⟨L, fps, h1, h2, h3, fun b hb => ⟨(h4 b hb).1, Nat.lt_of_lt_of_le (h4 b hb).2.1 ht, (h4 b hb).2.2⟩, fun g hg => Nat.lt_of_lt_of_le (h5 g hg) ht, h6⟩

/-- all its blocks are as they were -/
theorem Bl.sameB (h : Bl E e base top w v ys) (hs : ∀ k, base ≤ k → k < top → w'.heap[k]? = w.heap[k]?) : Bl E e base top w' v ys := by
 obtain ⟨L, fps, h1, h2, h3, h4, h5, h6⟩ := h
 have hS : Same (flat fps ys.length) w w' := fun k hk => hs k (h4 k hk).1 (h4 k hk).2.1
 refine ⟨L, fps, ⟨h1.1, ?_⟩, fun i hi => ?_, h3, h4, h5, h6.same hS⟩
 ·rcases h1.2 with h | ⟨g, cap, cur, rfl, hg, hh, r⟩
  ·exact .inl h
  ·exact .inr ⟨g, cap, cur, rfl, hg, by rw [hs g hg (h5 g rfl)]; exact hh, r⟩
 ·obtain ⟨cs, h7, h8⟩ := h2 i hi
  exact ⟨cs, E.same h7 (fun k hk => hS k (List.mem_flatMap.2 ⟨i, by simpa using hi, hk⟩)), h8⟩
theorem Bl.below {B : Nat} (h : Bl E e base top w v ys) (hb : Below B w w') (ht : top ≤ B) : Bl E e base top w' v ys :=
 h.sameB (fun k _ hk => hb.block k (Nat.lt_of_lt_of_le hk ht))

theorem Bl.fr (h : Bl E e base top w v ys) (hl : ys.length ≤ capMax) : (Ty.slice E).Fr base w [v] ys := by
 obtain ⟨L, fps, h1, h2, h3, h4, h5, h6⟩ := h
 rcases h1.2 with ⟨rfl, h0⟩ | ⟨g, cap, cur, rfl, hg, hh, hn, hc, hcs, hL⟩
 ·obtain rfl : ys = [] := List.eq_nil_of_length_eq_zero h0
  exact fr_nil
 ·rcases Nat.eq_zero_or_pos ys.length with h0 | h0
  ·rw [h0]
   obtain rfl : ys = [] := List.eq_nil_of_length_eq_zero h0
   exact fr_nil
  ·have hgf : w.frozen? ⟨g, 0, none⟩ = false := by simp [World.frozen?, hh]
   refine ⟨g :: flat fps ys.length, ⟨some ⟨g, 0, none⟩, cap, rfl, hn, hl, .inr ⟨h0, g, 0, fps, rfl, lt_of_block hh, rfl, fun i hi => ?_⟩⟩, List.nodup_cons.2 ⟨fun hm => (h4 g hm).2.2 rfl, h3⟩, ?_, ?_⟩
   ·obtain ⟨cs, h7, h8⟩ := h2 i hi
    refine ⟨cs, h7, fun j hj => ?_⟩
    have h9 := h8 j hj
    rw [Nat.zero_add]
    have hlt : i * E.sz + j < ys.length * E.sz := by
     have := E.len h7
     have h10 : (i + 1) * E.sz ≤ ys.length * E.sz := Nat.mul_le_mul_right _ hi
     rw [Nat.add_mul] at h10
     omega
    rw [World.ownsRow.cellAt h1 _ hlt, h9]
   ·intro b hb
    rcases List.mem_cons.1 hb with rfl | hb
    ·exact hg
    ·exact (h4 b hb).1
   ·intro b hb o
    rcases List.mem_cons.1 hb with rfl | hb
    ·exact World.ownsRow.frozenAt h1 o
    ·exact h6 b hb o
end

/-- what an append asks of the program's table -/
def ElT (P : Program) (t e sz bytes : Nat) : Prop := ∃ i z, P.underlying t = some (.slice e) ∧ P.info? e = some i ∧ i.zero = some z ∧ i.size = sz ∧ i.bytes = bytes ∧ z.cells.size = sz ∧ 0 < sz
theorem ElT.mk {P : Program} {t e sz bytes : Nat} {z : Value} (ht : P.underlying t = some (.slice e)) (h : (P.info? e).map (fun i => (i.zero, i.size, i.bytes)) = some (some z, sz, bytes)) (hz : z.cells.size = sz) (hp : 0 < sz) : ElT P t e sz bytes :=
 let ⟨i, h1, h2, h3, h4⟩ := info_parts h; ⟨i, z, ht, h1, h2, h3, h4, hz, hp⟩

theorem run_push_block {P : Program} (w : World) (base t ty e : Nat) {sz bytes : Nat} (hT : ElT P t e sz bytes) (v : Value) (n : Nat) (xs : List Value) (hown : w.ownsRow base e sz v n xs)
  (a : Addr) (m c : Nat) (news : List Value) (hl : news.length = m * sz) (hnews : ∀ j u, news[j]? = some u → w.cell? (a.add j) = some u) (h1 : ∀ u ∈ news, u.oneCell' = true)
  (h63 : n + m ≤ maxLen) (hbytes : (n + m) * bytes ≤ 140737488355328) (hm : 0 < m) (v' : Value) (w' : World)
  (hr : (Builtin.append_ #[t, t] ty #[v, .slice (some a) m c]).run P w = .ok v' w') : v'.ownBlock = v.ownBlock ∨ v'.ownBlock = some w.heap.size := by
 obtain ⟨i, z, ht, hi, hz, rfl, rfl, hzs, hp⟩ := hT
 have hsmall : n + m ≤ 9223372036854775807 := by simp only [maxLen] at h63; omega
 rcases hown.2 with ⟨rfl, rfl⟩ | ⟨g, cap, cur, rfl, hbg, hg, hnc, hcm, hcs, htake⟩
 ·rw [run_append_nil (P := P) w t ty e i z ht hi hz a m c news hl hnews hm (by omega) (by have hb := hbytes; simp only [Nat.zero_add] at hb; omega)] at hr
  simp only [Result.ok.injEq] at hr
  rw [← hr.1]
  exact .inr rfl
 ·by_cases hroom : n + m ≤ cap
  ·have hfit : n * i.size + news.length ≤ cur.size := by rw [hl, hcs, ← Nat.add_mul]; exact Nat.mul_le_mul_right _ hroom
   rw [run_append_room (P := P) w t ty e i ht hi g n cap cur hg a m c news hl hnews h1 hroom hfit] at hr
   simp only [Result.ok.injEq] at hr
   rw [← hr.1]
   exact .inl rfl
  ·have holds : ∀ j u, xs[j]? = some u → w.cell? ((⟨g, 0, none⟩ : Addr).add j) = some u := hown.cells (g := g) rfl
   rw [run_append_grow (P := P) w t ty e i z ht hi hz ⟨g, 0, none⟩ n cap xs hown.1 holds a m c news hl hnews (by omega) (by omega) (growslice_fits (by omega) hbytes)] at hr
   simp only [Result.ok.injEq] at hr
   rw [← hr.1]
   exact .inr rfl
theorem el_add {α : Type} {E : Ty α} {w : World} {L : List Value} {ys : List α} {fps : Nat → List Nat} {y : α} {cs : List Value} {fp : List Nat} (h : els E w L ys fps) (hL : L.length = ys.length * E.sz) (hy : E.rd w cs y fp) :
  els E w (L ++ cs) (ys ++ [y]) (fun i => if i = ys.length then fp else fps i) := by
 intro i hi
 have hlen := E.len hy
 by_cases h0 : i = ys.length
 ·subst h0
  refine ⟨cs, by simpa using hy, fun j hj => ?_⟩
  rw [List.getElem?_append_right (by rw [hL]; omega), hL, Nat.add_sub_cancel_left]
  exact List.getElem?_eq_getElem hj
 ·have hi' : i < ys.length := by simp at hi; omega
  obtain ⟨cs', h7, h8⟩ := h i hi'
  refine ⟨cs', by simpa [h0, List.getElem_append_left hi'] using h7, fun j hj => ?_⟩
  rw [List.getElem?_append_left]
  ·exact h8 j hj
  ·have := E.len h7
   have h10 : (i + 1) * E.sz ≤ ys.length * E.sz := Nat.mul_le_mul_right _ hi'
   rw [Nat.add_mul] at h10
   omega
theorem flat_add {n : Nat} {fp : List Nat} {fps : Nat → List Nat} : flat (fun i => if i = n then fp else fps i) (n + 1) = flat fps n ++ fp := by
 unfold flat
 rw [List.range_succ, List.flatMap_append]
 congr 1
 ·refine congrArg List.flatten (List.map_congr_left fun i hi => ?_)
  simp at hi
  rw [if_neg (by omega)]
 ·simp

theorem wpList_push {P : Program} {α : Type} {E : Ty α} (w : World) {ops : Array Oper} {rest : List Oper} {o : Oper} {a : Act} {Q : Exit → Act → World → Prop} (hgd : o.guard = none) (s x : Operand) (t e : TypeId) {bytes : Nat}
  (ho : o.op = .call { callee := .builtin .append, args := #[s, x], argTypes := #[t, t] }) (hT : ElT P t e E.sz bytes)
  {base top : Nat} {v : Value} {ys : List α} (hs : a.eval s = v) (hB : Bl E e base top w v ys)
  {ad : Addr} {c : Nat} {cs : List Value} {y : α} (hx : a.eval x = .slice (some ad) 1 c) (hnews : ∀ j u, cs[j]? = some u → w.cell? (ad.add j) = some u) (hy : E.Fr top w cs y)
  (hlen : ys.length ≤ 1000000000) (hby : bytes ≤ 100000) (hbt : base ≤ top) (htop : top ≤ w.heap.size)
  (h : ∀ v' w', Bl E e base w'.heap.size w' v' (ys ++ [y]) → w.grownBy w' v.ownBlock → (v'.ownBlock = v.ownBlock ∨ v'.ownBlock = some w.heap.size) → wpList P ops Q rest (a.put o.dst v') w') : wpList P ops Q (o :: rest) a w := by
 obtain ⟨L, fps, g1, g2, g3, g4, g5, g6⟩ := hB
 obtain ⟨fp, k1, k2, k3, k4⟩ := hy
 obtain ⟨i, z, ht, hi, hz, hsz, hbt', hzs, hp⟩ := id hT
 have hcl := E.len k1
 have hlen' : (ys.length + 1) * bytes ≤ 140737488355328 := Nat.le_trans (Nat.mul_le_mul (show ys.length + 1 ≤ 1000000001 by omega) hby) (by decide)
 have hbase : base ≤ w.heap.size := Nat.le_trans hbt htop
 refine wpList_plain hgd fun K hK => ?_
 obtain ⟨v', w', hr, h2, h3, h4⟩ := run_append_own (P := P) w base t o.type e i z E.sz bytes ht hi hz hsz hbt' hzs hp v ys.length L g1 ad 1 c cs (by omega) hnews (E.one k1) (by unfold maxLen; omega) hlen' hbase
 have hblk := run_push_block w base t o.type e hT v ys.length L g1 ad 1 c cs (by omega) hnews (E.one k1) (by unfold maxLen; omega) hlen' (by omega) v' w' hr
 have hS : ∀ k, v.ownBlock ≠ some k → k < w.heap.size → w'.heap[k]? = w.heap[k]? := fun k hk hlt => h3.block k hlt (fun he => hk he.symm)
 have hlt1 : ∀ b ∈ flat fps ys.length, b < w.heap.size := fun b hb => Nat.lt_of_lt_of_le (g4 b hb).2.1 htop
 have hlt2 : ∀ b ∈ fp, b < w.heap.size := E.lt k1
 have hS1 : Same (flat fps ys.length) w w' := fun k hk => hS k (g4 k hk).2.2 (hlt1 k hk)
 have hne : ∀ b ∈ fp, v.ownBlock ≠ some b := fun b hb he => by have := g5 b he; have := k3 b hb; omega
 have hS2 : Same fp w w' := fun k hk => hS k (hne k hk) (hlt2 k hk)
 have hBl : Bl E e base w'.heap.size w' v' (ys ++ [y]) := by
  refine ⟨L ++ cs, fun i => if i = ys.length then fp else fps i, by simpa using h2, el_add (fun i hi => ?_) g1.1 (E.same k1 hS2), ?_, ?_, ?_, ?_⟩
  ·obtain ⟨cs', h7, h8⟩ := g2 i hi
   exact ⟨cs', E.same h7 (fun k hk => hS1 k (List.mem_flatMap.2 ⟨i, by simpa using hi, hk⟩)), h8⟩
  ·rw [List.length_append, List.length_singleton, flat_add]
   exact List.nodup_append.2 ⟨g3, k2, fun a ha b hb he => by subst he; have := (g4 a ha).2.1; have := k3 a hb; omega⟩
  ·rw [List.length_append, List.length_singleton, flat_add]
   intro b hb
   have hsz' := h3.size
   rcases List.mem_append.1 hb with hb | hb
   ·refine ⟨(g4 b hb).1, by have := hlt1 b hb; omega, ?_⟩
    rcases hblk with e1 | e1 <;> rw [e1]
    ·exact (g4 b hb).2.2
    ·intro he; have := hlt1 b hb; simp at he; omega
   ·refine ⟨by have := k3 b hb; omega, by have := hlt2 b hb; omega, ?_⟩
    rcases hblk with e1 | e1 <;> rw [e1]
    ·exact hne b hb
    ·intro he; have := hlt2 b hb; simp at he; omega
  ·intro g hg
   exact (h2.lt g hg).2
  ·rw [List.length_append, List.length_singleton, flat_add]
   intro b hb
   rcases List.mem_append.1 hb with hb | hb
   ·exact g6.same hS1 b hb
   ·exact k4.same hS2 b hb
 unfold Oper.wp execOp
 simp only [ho, resolve, invoke, builtin, Sem.run_bind, Sem.run_pure, Result.andThen_ok, List.map_toArray, List.map_cons, List.map_nil, hs, hx, hr]
 exact hK _ _ (h v' w' hBl h3 hblk)

/-- a row that make has laid, in block g: n elements, of which the first ones read as ys -/
def Ar {α : Type} (E : Ty α) (e base top : Nat) (w : World) (g n cap : Nat) (ys : List α) : Prop :=
 ∃ L fps, w.ownsRow base e E.sz (.slice (some ⟨g, 0, none⟩) n cap) n L ∧ els E w L ys fps ∧ ys.length ≤ n ∧ (flat fps ys.length).Nodup ∧ (∀ b ∈ flat fps ys.length, base ≤ b ∧ b < top ∧ g ≠ b) ∧ g < top ∧ base ≤ g ∧ Unf w (flat fps ys.length)

section
variable {α : Type} {E : Ty α} {e base top g n cap : Nat} {w w' : World} {ys : List α}
theorem Ar.sameB (h : Ar E e base top w g n cap ys) (hs : ∀ k, base ≤ k → k < top → w'.heap[k]? = w.heap[k]?) : Ar E e base top w' g n cap ys := by
 obtain ⟨L, fps, h1, h2, hn, h3, h4, h5, h5', h6⟩ := h
 have hS : Same (flat fps ys.length) w w' := fun k hk => hs k (h4 k hk).1 (h4 k hk).2.1
 refine ⟨L, fps, ⟨h1.1, ?_⟩, fun i hi => ?_, hn, h3, h4, h5, h5', h6.same hS⟩
 ·rcases h1.2 with h | ⟨g', cap, cur, hg', hg, hh, r⟩
  ·exact .inl h
  ·simp only [Value.slice.injEq, Option.some.injEq, Addr.mk.injEq, and_true, true_and] at hg'
   obtain ⟨rfl, rfl⟩ := hg'
   exact .inr ⟨g, _, cur, rfl, hg, by rw [hs g hg h5]; exact hh, r⟩
 ·obtain ⟨cs, h7, h8⟩ := h2 i hi
  exact ⟨cs, E.same h7 (fun k hk => hS k (List.mem_flatMap.2 ⟨i, by simpa using hi, hk⟩)), h8⟩
theorem Ar.below {B : Nat} (h : Ar E e base top w g n cap ys) (hb : Below B w w') (ht : top ≤ B) : Ar E e base top w' g n cap ys :=
 h.sameB (fun k _ hk => hb.block k (Nat.lt_of_lt_of_le hk ht))
theorem Ar.mono {top' : Nat} (h : Ar E e base top w g n cap ys) (ht : top ≤ top') : Ar E e base top' w g n cap ys :=
 let ⟨L, fps, h1, h2, hn, h3, h4, h5, h5', h6⟩ := h
 ⟨L, fps, h1, h2, hn, h3, fun b hb => ⟨(h4 b hb).1, Nat.lt_of_lt_of_le (h4 b hb).2.1 ht, (h4 b hb).2.2⟩, Nat.lt_of_lt_of_le h5 ht, h5', h6⟩
theorem Ar.fr (h : Ar E e base top w g n cap ys) (hl : ys.length ≤ capMax) (hn : n = ys.length) : (Ty.slice E).Fr base w [.slice (some ⟨g, 0, none⟩) n cap] ys := by
 obtain ⟨L, fps, h1, h2, _, h3, h4, h5, h5', h6⟩ := h
 subst hn
 refine Bl.fr (E := E) (e := e) (top := top) ⟨L, fps, h1, h2, h3, fun b hb => ⟨(h4 b hb).1, (h4 b hb).2.1, by simpa [Value.ownBlock] using (h4 b hb).2.2⟩, fun g' hg' => ?_, h6⟩ hl
 simp [Value.ownBlock] at hg'
 omega
theorem Ar.cell (h : Ar E e base top w g n cap ys) {j : Nat} (hj : j < n * E.sz) : ∃ u, w.cell? ⟨g, j, none⟩ = some u := by
 obtain ⟨L, fps, h1, _⟩ := h
 rw [World.ownsRow.cellAt h1 j hj]
 exact ⟨_, List.getElem?_eq_getElem (by rw [h1.1]; exact hj)⟩
theorem Ar.free (h : Ar E e base top w g n cap ys) (j : Nat) : w.frozen? ⟨g, j, none⟩ = false := by
 obtain ⟨L, fps, h1, _⟩ := h
 exact World.ownsRow.frozenAt h1 j
theorem Ar.lt (h : Ar E e base top w g n cap ys) : g < w.heap.size := by
 obtain ⟨L, fps, h1, _⟩ := h
 exact (h1.lt g rfl).2
/-- what a store into the row keeps -/
theorem same_set {fp : List Nat} {g j : Nat} {u : Value} (h : ∀ b ∈ fp, g ≠ b) : Same fp w (w.setCell ⟨g, j, none⟩ u) := fun k hk => Below.heap_setCell w ⟨g, j, none⟩ u k (fun e => h k hk e.symm)

end

/-- a call hands back new memory (one cell: a slice) that reads as x -/
def RetS {α : Type} (E : Ty α) (w : World) (x : α) (e : Ending) (w' : World) : Prop := ∃ u, e = .returned u ∧ E.Fr w.heap.size w' [u] x ∧ Below w.heap.size w w'
/-- .. a struct -/
def RetA {α : Type} (E : Ty α) (w : World) (x : α) (e : Ending) (w' : World) : Prop := ∃ cs : List Value, e = .returned (.agg cs.toArray) ∧ E.Fr w.heap.size w' cs x ∧ Below w.heap.size w w'
theorem Ty.Fr.set {α : Type} {E : Ty α} {base : Nat} {w : World} {cs : List Value} {x : α} {a : Addr} {u : Value} (h : E.Fr base w cs x) (ha : a.block < base) : E.Fr base (w.setCell a u) cs x :=
 let ⟨fp, h1, h2, h3, h4⟩ := h
 have hs : Same fp w (w.setCell a u) := fun k hk => Below.heap_setCell w a u k (fun e => by have := h3 k hk; omega)
 ⟨fp, E.same h1 hs, h2, h3, h4.same hs⟩
theorem fr_slice {α : Type} {E : Ty α} {base : Nat} {w : World} {u : Value} {x : List α} (h : (Ty.slice E).Fr base w [u] x) : ∃ ad cap, u = .slice ad x.length cap :=
 let ⟨_, ⟨ad, cap, hu, _⟩, _⟩ := h; ⟨ad, cap, by simpa using hu⟩
theorem fr_pair {α : Type} {E : Ty α} {base : Nat} {w : World} {cs : List Value} {x : Int × List α} (h : (Ty.cons (Ty.slice E)).Fr base w cs x) : ∃ ad cap, cs = [.int .i64 x.1, .slice ad x.2.length cap] :=
 let ⟨_, ⟨_, h1, _, ad, cap, h2, _⟩, _⟩ := h; ⟨ad, cap, by rw [h1, h2]⟩
theorem fr_trip {α : Type} {E : Ty α} {base : Nat} {w : World} {cs : List Value} {x : Int × Int × List α} (h : (Ty.cons (Ty.cons (Ty.slice E))).Fr base w cs x) : ∃ ad cap, cs = [.int .i64 x.1, .int .i64 x.2.1, .slice ad x.2.2.length cap] :=
 let ⟨_, ⟨_, h1, _, _, h3, _, ad, cap, h2, _⟩, _⟩ := h; ⟨ad, cap, by rw [h1, h3, h2]⟩
theorem take_snoc {α : Type} {xs : List α} {k : Nat} (h : k < xs.length) : xs.take k ++ [xs[k]] = xs.take (k + 1) := (List.take_succ_eq_append_getElem h).symm
theorem take_len {α : Type} {xs : List α} {k : Nat} (h : k ≤ xs.length) : (xs.take k).length = k := List.length_take_of_le h
end Go.Proofs.YtmnjlhcbabhhlaaGreatDoor
namespace Go.Proofs.YtmnjlhcbabhhlaaGreatDoor
open Go.RowKit Go.Sort

set_option maxHeartbeats 400000 in
theorem IndexFuncInt_any (w : World) {v : Value} {xs : List (Int)} (h : (Ty.slice Ty.int).Rd w [v] xs) (p : Int → Bool) (g : Nat) (lb : Array Value) (eg : ∀ args w, (callFunc g args).run Tryz.prog w = .ok (.enter g args) w)
  (hp : Hid (∀ W, Below w.heap.size w W → ∀ k (h : k < xs.length), Calls Tryz.prog g (#[.int .i64 xs[k]] ++ lb) W fun e W' => e = .returned (.bool (p xs[k])) ∧ Below W.heap.size W W')) :
  Calls Tryz.prog 97 #[v, .func (.func g) #[] lb] w fun e w' => e = .returned (.int .i64 (firstI p xs)) ∧ Below w.heap.size w w' := by
 obtain ⟨ad, cap, hv, hl, hc, hcell⟩ := ints_ex h
 obtain rfl : v = _ := by simpa using hv
 clear h hv
 go_enter Tryz.func97, Tryz.ntmps97
 go_wp2_with fail
 go_loopw [8] (fun i wr => ∃ k : Nat, k ≤ xs.length ∧ i = .int .i64 k ∧ noneB p (xs.take k) ∧ Below w.heap.size w wr) (fun i _ => xs.length - (intOf i).toNat)
 case atStart => exact ⟨0, Nat.zero_le _, rfl, noneB_zero p xs, Below.refl _ _⟩
 case round =>
  obtain ⟨k, hk, rfl, ht, hbel⟩ := hrel
  have HT := Lib.hid ht
  clear ht
  by_cases hkl : k < xs.length
  ·obtain ⟨b, o, rfl, hb, hce⟩ := hcell (by omega)
   obtain ⟨hI, hc0⟩ := hce k hkl
   have d0 : wr.cell? ⟨b, o + k, none⟩ = some (.int .i64 xs[k]) := (hbel.cell hb).trans hc0
   go_wp2_with fail
   refine (hp.out wr hbel k hkl).mono ?_
   rintro e w2 ⟨rfl, hb2⟩
   cases hq : p xs[k]
   ·go_wp2_with fail
    go_roundw
    case rel => exact ⟨k + 1, by omega, by go_num, noneB_succ hkl HT.out hq, bthen hbel hb2⟩
    case measure => simp [intOf]; omega
   ·go_wp2_with fail
    go_ret
    exact ⟨ret_int (firstI_at hkl HT.out hq).symm, bthen hbel hb2⟩
  ·obtain rfl : k = xs.length := by omega
   go_wp2_with fail
   go_ret
   exact ⟨ret_int (firstI_none (by have := HT.out; rwa [List.take_length] at this)).symm, hbel⟩
theorem ContainsFuncInt_any (w : World) {v : Value} {xs : List (Int)} (h : (Ty.slice Ty.int).Rd w [v] xs) (p : Int → Bool) (g : Nat) (lb : Array Value) (eg : ∀ args w, (callFunc g args).run Tryz.prog w = .ok (.enter g args) w)
  (hp : Hid (∀ W, Below w.heap.size w W → ∀ k (h : k < xs.length), Calls Tryz.prog g (#[.int .i64 xs[k]] ++ lb) W fun e W' => e = .returned (.bool (p xs[k])) ∧ Below W.heap.size W W')) :
  Calls Tryz.prog 84 #[v, .func (.func g) #[] lb] w fun e w' => e = .returned (.bool (anyB p xs)) ∧ Below w.heap.size w w' := by
 have hr := firstI_any p xs
 cases hq : anyB p xs
 all_goals
  rw [hq] at hr
  go_enter Tryz.func84, Tryz.ntmps84
  go_wp2_with fail
  refine (IndexFuncInt_any _ h p g lb eg hp).mono ?_
  rintro e w2 ⟨rfl, hb2⟩
  go_wp2_with fail
  go_ret
  first | exact ⟨rfl, hb2⟩ | exact ⟨ret_bool (by simpa using hr), hb2⟩
set_option maxHeartbeats 400000 in
theorem IndexFuncAtom_any (w : World) {v : Value} {xs : List (Int × List Int)} (h : (Ty.slice opT).Rd w [v] xs) (p : Int × List Int → Bool) (g : Nat) (lb : Array Value) (eg : ∀ args w, (callFunc g args).run Tryz.prog w = .ok (.enter g args) w)
  (hp : Hid (∀ W, Below w.heap.size w W → ∀ k (h : k < xs.length) (cs : Array Value), opT.Rd W cs.toList xs[k] → Calls Tryz.prog g (#[.agg cs] ++ lb) W fun e W' => e = .returned (.bool (p xs[k])) ∧ Below W.heap.size W W')) :
  Calls Tryz.prog 66 #[v, .func (.func g) #[] lb] w fun e w' => e = .returned (.int .i64 (firstI p xs)) ∧ Below w.heap.size w w' := by
 obtain ⟨ad, cap, hv, hl, hc, hcell⟩ := pairs_ex h
 obtain rfl : v = _ := by simpa using hv
 clear h hv
 go_enter Tryz.func66, Tryz.ntmps66
 go_wp2_with fail
 go_loopw [8] (fun i wr => ∃ k : Nat, k ≤ xs.length ∧ i = .int .i64 k ∧ noneB p (xs.take k) ∧ Below w.heap.size w wr) (fun i _ => xs.length - (intOf i).toNat)
 case atStart => exact ⟨0, Nat.zero_le _, rfl, noneB_zero p xs, Below.refl _ _⟩
 case round =>
  obtain ⟨k, hk, rfl, ht, hbel⟩ := hrel
  have HT := Lib.hid ht
  clear ht
  by_cases hkl : k < xs.length
  ·obtain ⟨b, o, rfl, hb, hce⟩ := hcell (by omega)
   obtain ⟨u, hu, hI, hc0, hc1⟩ := hce k hkl
   have d0 : wr.cell? ⟨b, o + k * 2, none⟩ = some (.int .i64 xs[k].1) := (hbel.cell hb).trans hc0
   have d1 : wr.cell? ⟨b, o + k * 2 + 1, none⟩ = some u := (hbel.cell hb).trans hc1
   go_wp2_with fail
   refine (hp.out wr hbel k hkl #[.int .i64 xs[k].1, u] (pair_mk hI (hu.below hbel))).mono ?_
   rintro e w2 ⟨rfl, hb2⟩
   cases hq : p xs[k]
   ·go_wp2_with fail
    go_roundw
    case rel => exact ⟨k + 1, by omega, by go_num, noneB_succ hkl HT.out hq, bthen hbel hb2⟩
    case measure => simp [intOf]; omega
   ·go_wp2_with fail
    go_ret
    exact ⟨ret_int (firstI_at hkl HT.out hq).symm, bthen hbel hb2⟩
  ·obtain rfl : k = xs.length := by omega
   go_wp2_with fail
   go_ret
   exact ⟨ret_int (firstI_none (by have := HT.out; rwa [List.take_length] at this)).symm, hbel⟩
theorem ContainsFuncAtom_any (w : World) {v : Value} {xs : List (Int × List Int)} (h : (Ty.slice opT).Rd w [v] xs) (p : Int × List Int → Bool) (g : Nat) (lb : Array Value) (eg : ∀ args w, (callFunc g args).run Tryz.prog w = .ok (.enter g args) w)
  (hp : Hid (∀ W, Below w.heap.size w W → ∀ k (h : k < xs.length) (cs : Array Value), opT.Rd W cs.toList xs[k] → Calls Tryz.prog g (#[.agg cs] ++ lb) W fun e W' => e = .returned (.bool (p xs[k])) ∧ Below W.heap.size W W')) :
  Calls Tryz.prog 46 #[v, .func (.func g) #[] lb] w fun e w' => e = .returned (.bool (anyB p xs)) ∧ Below w.heap.size w w' := by
 have hr := firstI_any p xs
 cases hq : anyB p xs
 all_goals
  rw [hq] at hr
  go_enter Tryz.func46, Tryz.ntmps46
  go_wp2_with fail
  refine (IndexFuncAtom_any _ h p g lb eg hp).mono ?_
  rintro e w2 ⟨rfl, hb2⟩
  go_wp2_with fail
  go_ret
  first | exact ⟨rfl, hb2⟩ | exact ⟨ret_bool (by simpa using hr), hb2⟩
end Go.Proofs.YtmnjlhcbabhhlaaGreatDoor
namespace Go.Proofs.YtmnjlhcbabhhlaaGreatDoor

/-- a proposition as a test -/
noncomputable def tb (p : Prop) : Bool := @decide p (Classical.propDecidable p)
theorem tb_true {p : Prop} (h : p) : tb p = true := by simp [tb, h]
theorem tb_false {p : Prop} (h : ¬ p) : tb p = false := by simp [tb, h]
theorem tb_iff {p : Prop} : tb p = true ↔ p := by simp [tb]
theorem tb_congr {p q : Prop} (h : p ↔ q) : tb p = tb q := by rw [propext h]
def cmpI (x y : Int) : Int := if x < y then -1 else if y < x then 1 else 0
theorem cmpI_lt {x y : Int} (h : x < y) : cmpI x y = -1 := if_pos h
/-- the order of lists -/
def cmpL : List Int → List Int → Int
 | [], [] => 0
 | [], _ :: _ => -1
 | _ :: _, [] => 1
 | x :: xs, y :: ys => if x = y then cmpL xs ys else cmpI x y
def ltL (xs ys : List Int) : Prop := cmpL xs ys < 0
/-- so many values of a size -/
def rowOk (size ar : Int) (t : List Int) : Prop := (t.length : Int) = ar ∧ ∀ a ∈ t, 0 ≤ a ∧ a ≤ size - 1
def sizeOk (size : Int) : Prop := 1 ≤ size ∧ size ≤ 4
def relOk (size : Int) (r : Int × List (List Int)) : Prop :=
 sizeOk size ∧ sizeOk r.1 ∧ ∀ i (h : i < r.2.length), rowOk size r.1 r.2[i] ∧ (0 < i → ltL (r.2[i - 1]'(by omega)) r.2[i])
def frameOk (f : Int × Int × List (Int × List Int)) : Prop := (1 ≤ f.1 ∧ f.1 ≤ 4) ∧ (f.1 ≤ f.2.1 ∧ f.2.1 ≤ 8) ∧ f.2.2.length ≤ 16
end Go.Proofs.YtmnjlhcbabhhlaaGreatDoor
namespace Go.Proofs.YtmnjlhcbabhhlaaGreatDoor
open Go.RowKit

abbrev VP := Value → World → Prop

def readsB (o : Oper) (t : Tmp) : Bool := o.op.operands.toList.any fun x => match x with | .tmp s => s == t | _ => false

def putAll (a : Act) : List Oper → List Value → Act
 | o :: l, v :: vs => putAll (a.put o.dst v) l vs
 | _, _ => a

/-- no guards; each edge leads back; every slot that an operation names and that another one writes is written by one that it waits for; no slot is written twice; all slots lie in the frame -/
def looseB (l : List Oper) (n : Nat) : Bool :=
 l.zipIdx.all fun (o, i) => o.guard.isNone && o.after.toList.all (fun e => !Region.binds .any e || decide (e.on < i)) && (match o.dst with | some d => decide (d < n) | none => true) &&
  l.zipIdx.all fun (q, j) => match q.dst with
   | none => true
   | some d => (o.op.operands.toList.all fun x => match x with
     | .tmp t => t != d || o.after.toList.any (fun e => e.on == j && Region.binds .any e)
     | _ => true) && (i == j || o.dst != some d)

/-- where the region stands -/
structure LInv (l : List Oper) (Φs : List VP) (a : Act) (w : World) (listed : Array Bool) (a' : Act) (w' : World) : Prop where
 below : Below w.heap.size w w'
 size : listed.size = l.length
 defers : a'.defers = a.defers
 tsize : a'.tmps.size = a.tmps.size
 old : ∀ t, (∀ (j : Nat) (o : Oper), l[j]? = some o → o.dst = some t → listed.getD j false = false) → a'.tmps[t]? = a.tmps[t]?
 new : ∀ (j : Nat) (o : Oper) (Φ : VP), l[j]? = some o → Φs[j]? = some Φ → listed.getD j false = true → ∀ d, o.dst = some d → Φ (a'.eval (.tmp d)) w'

theorem looseB_spec {l : List Oper} {n : Nat} (h : looseB l n = true) {i : Nat} {o : Oper} (hi : l[i]? = some o) :
  o.guard = none ∧ (∀ e ∈ o.after, Region.binds .any e = true → e.on < i) ∧ (∀ d, o.dst = some d → d < n) ∧
  ∀ (j : Nat) (q : Oper) (d : Tmp), l[j]? = some q → q.dst = some d → (Operand.tmp d ∈ o.op.operands.toList → ∃ e ∈ o.after, e.on = j ∧ Region.binds .any e = true) ∧ (i ≠ j → o.dst ≠ some d) := by
 have hmem : (o, i) ∈ l.zipIdx := by
  rw [List.mem_zipIdx_iff_getElem?]
  exact hi
 have h1 := List.all_eq_true.1 h _ hmem
 simp only [Bool.and_eq_true] at h1
 obtain ⟨⟨⟨g1, g2⟩, g3⟩, g4⟩ := h1
 refine ⟨by simpa using g1, fun e he hbd => ?_, fun d hd => ?_, fun j q d hj hd => ?_⟩
 ·have := List.all_eq_true.1 g2 e (by simpa using he)
  simpa [hbd] using this
 ·rw [hd] at g3; simpa using g3
 ·have hmem2 : (q, j) ∈ l.zipIdx := by rw [List.mem_zipIdx_iff_getElem?]; exact hj
  have h2 := List.all_eq_true.1 g4 _ hmem2
  simp only [hd, Bool.and_eq_true] at h2
  refine ⟨fun ht => ?_, fun hne he => ?_⟩
  ·have h3 := List.all_eq_true.1 h2.1 _ ht
   simp only [bne_self_eq_false, Bool.false_or, List.any_eq_true, Bool.and_eq_true, beq_iff_eq] at h3
   obtain ⟨e, he, h4, h5⟩ := h3
   exact ⟨e, by simpa using he, h4, h5⟩
  ·have := h2.2
   rw [he] at this
   simp [hne] at this

theorem eval_put_self {a : Act} {d : Tmp} {v : Value} (h : d < a.tmps.size) : (a.put (some d) v).eval (.tmp d) = v := by
 simp [Act.put, Act.eval, h]
theorem eval_put_ne {a : Act} {o : Option Tmp} {d : Tmp} {v : Value} (h : o ≠ some d) : (a.put o v).eval (.tmp d) = a.eval (.tmp d) := by
 cases o with
 | none => rfl
 | some q => simp [Act.put, Act.eval, Array.getElem?_setIfInBounds_ne (show q ≠ d from fun e => h (by rw [e]))]
theorem put_size {a : Act} {o : Option Tmp} {v : Value} : (a.put o v).tmps.size = a.tmps.size := by cases o <;> simp [Act.put]
theorem put_defers {a : Act} {o : Option Tmp} {v : Value} : (a.put o v).defers = a.defers := by cases o <;> rfl
theorem put_other {a : Act} {o : Option Tmp} {v : Value} {t : Tmp} (h : o ≠ some t) : (a.put o v).tmps[t]? = a.tmps[t]? := by
 cases o with
 | none => rfl
 | some q => simp only [Act.put]; rw [Array.getElem?_setIfInBounds_ne (show q ≠ t from fun e => h (by rw [e]))]
theorem put_same {a : Act} {t : Tmp} {v : Value} (h : t < a.tmps.size) : (a.put (some t) v).tmps[t]? = some v := by
 simp only [Act.put]; rw [Array.getElem?_setIfInBounds_self_of_lt h]

theorem LInv.step {l : List Oper} {Φs : List VP} {a : Act} {w : World} {listed : Array Bool} {a' : Act} {w' w'' : World} (hB : looseB l a.tmps.size = true)
  (hst : ∀ Φ ∈ Φs, ∀ v w1 w2, Φ v w1 → Below w1.heap.size w1 w2 → Φ v w2) (h : LInv l Φs a w listed a' w') {i : Nat} {o : Oper} {Φ : VP} (hi : l[i]? = some o) (hΦ : Φs[i]? = some Φ) {v : Value} (hb : Below w'.heap.size w' w'') (hv : Φ v w'') :
  LInv l Φs a w (listed.setIfInBounds i true) (a'.put o.dst v) w'' := by
 have hlt : i < listed.size := by rw [h.size]; exact (List.getElem?_eq_some_iff.1 hi).1
 obtain ⟨_, _, hdn, hall⟩ := looseB_spec hB hi
 refine ⟨bthen h.below hb, by simpa using h.size, put_defers.trans h.defers, put_size.trans h.tsize, fun t ht => ?_, fun j q Ψ hj hΨ hl d hd => ?_⟩
 ·have hne : o.dst ≠ some t := fun e => by
   have := ht i o hi e
   rw [Array.getD_eq_getD_getElem?, Array.getElem?_setIfInBounds_self_of_lt hlt] at this
   cases this
  rw [put_other hne]
  refine h.old t fun j q hj hd => ?_
  have := ht j q hj hd
  by_cases e : i = j
  ·subst e; rw [Array.getD_eq_getD_getElem?, Array.getElem?_setIfInBounds_self_of_lt hlt] at this; cases this
  ·rwa [getD_set_ne false e] at this
 ·by_cases e : i = j
  ·subst e
   rw [hi] at hj
   cases hj
   rw [hΦ] at hΨ
   cases hΨ
   rw [hd, eval_put_self (by rw [h.tsize]; exact hdn d hd)]
   exact hv
  ·rw [getD_set_ne false e] at hl
   have hne := (hall j q d hj hd).2 e
   rw [eval_put_ne hne]
   exact hst Ψ (List.mem_of_getElem? hΨ) _ _ _ (h.new j q Ψ hj hΨ hl d hd) hb

theorem putAll_frame {l : List Oper} : ∀ {vs : List Value} {a : Act}, (putAll a l vs).tmps.size = a.tmps.size ∧ (putAll a l vs).defers = a.defers ∧
  ∀ t, (∀ o ∈ l, o.dst ≠ some t) → (putAll a l vs).tmps[t]? = a.tmps[t]? := by
 induction l with
 | nil => intro vs a; cases vs <;> exact ⟨rfl, rfl, fun _ _ => rfl⟩
 | cons o l ih =>
  intro vs a
  cases vs with
  | nil => exact ⟨rfl, rfl, fun _ _ => rfl⟩
  | cons v vs =>
   obtain ⟨h1, h2, h3⟩ := ih (vs := vs) (a := a.put o.dst v)
   exact ⟨h1.trans put_size, h2.trans put_defers, fun t ht => (h3 t fun q hq => ht q (List.mem_cons_of_mem _ hq)).trans (put_other (ht o (List.mem_cons_self ..)))⟩
theorem putAll_get {l : List Oper} : ∀ {a : Act} (f : Oper → Value) {j : Nat} {q : Oper} {d : Tmp}, l[j]? = some q → q.dst = some d → d < a.tmps.size → (∀ (i : Nat) (o : Oper), i ≠ j → l[i]? = some o → o.dst ≠ some d) →
  (putAll a l (l.map f)).tmps[d]? = some (f q) := by
 induction l with
 | nil => intro a f j q d h; simp at h
 | cons o l ih =>
  intro a f j q d hj hd hlt hne
  simp only [List.map_cons, putAll]
  match j with
  | 0 =>
   simp at hj
   subst hj
   rw [(putAll_frame (l := l) (vs := l.map f) (a := a.put o.dst (f o))).2.2 d (fun p hp => ?_), hd, put_same hlt]
   obtain ⟨i, hi⟩ := List.getElem?_of_mem hp
   exact hne (i + 1) p (by omega) (by simpa using hi)
  | j + 1 =>
   exact ih f (by simpa using hj) hd (by rw [put_size]; exact hlt) fun i p hi hp => hne (i + 1) p (by omega) (by simpa using hp)

theorem ready_nil {l : List Oper} {n : Nat} (hB : looseB l n = true) {listed : Array Bool} (hs : listed.size = l.length) (h : Region.ready .any l.toArray listed = []) : ∀ i, i < l.length → listed.getD i false = true := by
 intro i
 induction i using Nat.strongRecOn with
 | ind i ih =>
  intro hi
  cases hl : listed.getD i false
  ·exfalso
   have hm : i ∈ Region.ready .any l.toArray listed := by
    refine mem_ready.2 ⟨?_, l[i], by simp [hi], fun e he hbd => ?_⟩
    ·have : i < listed.size := by omega
     rw [Array.getD_eq_getD_getElem?, Array.getElem?_eq_getElem this] at hl ⊢
     exact hl
    ·have hlt := (looseB_spec hB (i := i) (o := l[i]) (by simp [hi])).2.1 e he hbd
     exact ih e.on hlt (by omega)
   rw [h] at hm
   cases hm
  ·rfl

theorem ev {a : Act} {t : Tmp} {v : Value} (h : a.eval (.tmp t) = v) : a.tmps[t]?.getD undef = v := by simpa [Act.eval] using h
end Go.Proofs.YtmnjlhcbabhhlaaGreatDoor
namespace Go.Proofs.YtmnjlhcbabhhlaaGreatDoor
open Go.RowKit Go.Sort
theorem areValues1_any (w : World) (size a : Int) (b : Nat) (h0 : 0 ≤ size) (h1 : size ≤ 1000000000000) (hc : w.cell? ⟨b, 0, none⟩ = some (.int .i64 size)) :
  Calls Tryz.prog 85 #[.int .i64 a, .pointer (some ⟨b, 0, none⟩)] w fun e w' => e = .returned (.bool (!inB a 0 (size - 1))) ∧ Below w.heap.size w w' := by
 go_enter Tryz.func85, Tryz.ntmps85
 go_wp2_with (go_at_call 86; refine (isValue_any _ _ _ h0 h1).mono ?_; rintro e w' ⟨rfl, rfl⟩)
 go_ret
 exact ⟨rfl, Below.refl _ _⟩
theorem areValues_any (w : World) {v : Value} {xs : List Int} (h : intsT.Rd w [v] xs) (size many : Int) (h0 : 0 ≤ size) (h1 : size ≤ 1000000000000) :
  Calls Tryz.prog 67 #[.int .i64 size, v, .int .i64 many] w fun e w' => e = .returned (.bool (tb (rowOk size many xs))) ∧ Below w.heap.size w w' := by
 have hx := h
 obtain ⟨ad, cap, hv, hl, hc, -⟩ := ints_ex h
 obtain rfl : v = _ := by simpa using hv
 clear h hv
 cases hn : (((xs.length : Nat) : Int) == many)
 ·go_enter Tryz.func67, Tryz.ntmps67
  go_wp2_with fail
  go_ret
  exact ⟨ret_bool (tb_false (fun hr => by simp at hn; exact hn hr.1)).symm, bA⟩
 have HN : Hid ((xs.length : Int) = many) := by simpa [Hid] using hn
 have ha : (!anyB (fun a => !inB a 0 (size - 1)) xs) = tb (rowOk size many xs) := by
  rw [Bool.eq_iff_iff, tb_iff]
  simp only [anyB, rowOk, HN.out, true_and, Bool.not_eq_true', List.any_eq_false, Bool.not_eq_false, inB_true]
 have HA := Lib.hid ha
 clear ha
 go_enter Tryz.func67, Tryz.ntmps67
 go_wp2_with fail
 refine (ContainsFuncInt_any _ (hx.below bA) (fun a => !inB a 0 (size - 1)) 85 #[.pointer (some ⟨w.heap.size, 0, none⟩)] (enters Tryz.func85 (by kernel_rfl) rfl) (fun W hW k hk => areValues1_any W size xs[k] w.heap.size h0 h1 ?_)).mono ?_
 ·rw [hW.cell (by simp)]; simp
 rintro e w1 ⟨rfl, hb1⟩
 go_wp2_with fail
 go_ret
 exact ⟨ret_bool HA.out, (by repeat (first | exact Below.refl _ _ | exact bA | assumption | refine Below.setCell ?_ (by first | omega | (simp; try omega)) _ | refine Below.alloc ?_ (by first | omega | (simp; try omega)) _ | refine Below.drew ?_ | refine bDN ?_ | refine bthen ?_ (by assumption)))⟩
end Go.Proofs.YtmnjlhcbabhhlaaGreatDoor
namespace Go.Proofs.YtmnjlhcbabhhlaaGreatDoor
open Go.RowKit Go.Sort
end Go.Proofs.YtmnjlhcbabhhlaaGreatDoor
namespace Go.Proofs.YtmnjlhcbabhhlaaGreatDoor
open Go.RowKit Go.Sort
end Go.Proofs.YtmnjlhcbabhhlaaGreatDoor
namespace Go.Proofs.YtmnjlhcbabhhlaaGreatDoor
open Go.RowKit Go.Sort
theorem rd_elem {α : Type} {E : Ty α} {w : World} {ad : Option Addr} {cap : Nat} {xs : List α} (h : (Ty.slice E).Rd w [.slice ad xs.length cap] xs) {k : Nat} (hk : k < xs.length) :
  ∃ b o, ad = some ⟨b, o, none⟩ ∧ E.Pt w (.pointer (some ⟨b, o + k * E.sz, none⟩)) xs[k] := by
 obtain ⟨ad', cap', hv, _, _, h3⟩ := Ty.slice_ex h
 simp only [List.cons.injEq, Value.slice.injEq, and_true] at hv
 obtain ⟨rfl, -, rfl⟩ := hv
 obtain ⟨b, o, rfl, _⟩ := h3 (by omega)
 exact ⟨b, o, rfl, pt_elem h hk⟩
theorem isAtom_any (w : World) {cs : Array Value} {a : Int × List Int} (h : opT.Rd w cs.toList a) (ar vars : Int) (h0 : 0 ≤ vars) (h1 : vars ≤ 1000000000000) :
  Calls Tryz.prog 50 #[.agg cs, .int .i64 ar, .int .i64 vars] w fun e w' => e = .returned (.bool (tb (rowOk vars ar a.2))) ∧ Below w.heap.size w w' := by
 obtain ⟨v, hv, hI, hx⟩ := pair_ex h
 obtain rfl := agg_of hv
 clear h hv
 go_enter Tryz.func50, Tryz.ntmps50
 go_wp2_with fail
 refine (areValues_any _ (hx.below bA) _ _ h0 h1).mono ?_
 rintro e w1 ⟨rfl, hb1⟩
 go_wp2_with fail
 go_ret
 exact ⟨rfl, (by repeat (first | exact Below.refl _ _ | exact bA | assumption | refine Below.setCell ?_ (by first | omega | (simp; try omega)) _ | refine Below.alloc ?_ (by first | omega | (simp; try omega)) _ | refine Below.drew ?_ | refine bDN ?_ | refine bthen ?_ (by assumption)))⟩
theorem isFrame_any (w : World) {cs : Array Value} {f : Int × Int × List (Int × List Int)} (h : frmT.Rd w cs.toList f) :
  Calls Tryz.prog 45 #[.agg cs] w fun e w' => e = .returned (.bool (tb (frameOk f))) ∧ Below w.heap.size w w' := by
 obtain ⟨v, hv, hI, hI2, hx⟩ := trip_ex h
 obtain rfl := agg_of hv
 obtain ⟨ad, cap, rfl⟩ := rd_slice hx
 clear h hv
 cases h1 : inB f.1 1 4
 ·go_enter Tryz.func45, Tryz.ntmps45
  go_wp2_with (go_at_call 49; refine (isArity_any _ _).mono ?_; rintro e w' ⟨rfl, rfl⟩)
  go_ret
  exact ⟨ret_bool (tb_false (fun hr => by have := inB_true.2 hr.1; rw [h1] at this; cases this)).symm, (by repeat (first | exact Below.refl _ _ | exact bA | assumption | refine Below.setCell ?_ (by first | omega | (simp; try omega)) _ | refine Below.alloc ?_ (by first | omega | (simp; try omega)) _ | refine Below.drew ?_ | refine bDN ?_ | refine bthen ?_ (by assumption)))⟩
 cases h2 : inB f.2.1 f.1 8
 ·go_enter Tryz.func45, Tryz.ntmps45
  go_wp2_with (first | (go_at_call 49; refine (isArity_any _ _).mono ?_; rintro e w' ⟨rfl, rfl⟩) | (go_at_call 48; refine (within_any _ _ _ _).mono ?_; rintro e w' ⟨rfl, rfl⟩))
  go_ret
  exact ⟨ret_bool (tb_false (fun hr => by have := inB_true.2 hr.2.1; rw [h2] at this; cases this)).symm, (by repeat (first | exact Below.refl _ _ | exact bA | assumption | refine Below.setCell ?_ (by first | omega | (simp; try omega)) _ | refine Below.alloc ?_ (by first | omega | (simp; try omega)) _ | refine Below.drew ?_ | refine bDN ?_ | refine bthen ?_ (by assumption)))⟩
 have HR : Hid (decide ((f.2.2.length : Int) ≤ 16) = tb (frameOk f)) := by
  unfold Hid
  rw [Bool.eq_iff_iff, tb_iff, decide_eq_true_iff]
  exact ⟨fun h => ⟨inB_true.1 h1, inB_true.1 h2, by omega⟩, fun h => by have := h.2.2; omega⟩
 go_enter Tryz.func45, Tryz.ntmps45
 go_wp2_with (first | (go_at_call 49; refine (isArity_any _ _).mono ?_; rintro e w' ⟨rfl, rfl⟩) | (go_at_call 48; refine (within_any _ _ _ _).mono ?_; rintro e w' ⟨rfl, rfl⟩))
 go_ret
 exact ⟨ret_bool HR.out, (by repeat (first | exact Below.refl _ _ | exact bA | assumption | refine Below.setCell ?_ (by first | omega | (simp; try omega)) _ | refine Below.alloc ?_ (by first | omega | (simp; try omega)) _ | refine Below.drew ?_ | refine bDN ?_ | refine bthen ?_ (by assumption)))⟩
theorem l01Places_any (size : Int) {v : Value} {xs : List Int} (w : World) (h : intsT.Rd w [v] xs) (h0 : 0 ≤ size) (h1 : size ≤ 1000000000000) :
  Calls Tryz.prog 23 #[v, .int .i64 size] w fun e w' => e = .returned (.bool (tb (rowOk size xs.length xs))) ∧ w = w' := by
 obtain ⟨ad, cap, hv, hl, hc, hcell⟩ := ints_ex h
 obtain rfl : v = _ := by simpa using hv
 clear h hv
 go_enter Tryz.func23, Tryz.ntmps23
 go_wp2_with fail
 go_loop [5] (fun i => ∃ k : Nat, k ≤ xs.length ∧ i = .int .i64 k ∧ noneB (fun a => !inB a 0 (size - 1)) (xs.take k)) (fun i => xs.length - (intOf i).toNat)
 case atStart => exact ⟨0, Nat.zero_le _, rfl, noneB_zero _ _⟩
 case round =>
  obtain ⟨k, hk, rfl, ht⟩ := hrel
  have HT := Lib.hid ht
  clear ht
  by_cases hlt : k < xs.length
  ·obtain ⟨b, o, rfl, hb, hce⟩ := hcell (by omega)
   have hck := (hce k hlt).2
   clear hcell hce
   cases hi : inB xs[k] 0 (size - 1)
   ·go_wp2_with (go_at_call 21; refine (l00In_any _ _ _ _).mono ?_; rintro e w' ⟨rfl, rfl⟩)
    go_ret
    exact ⟨ret_bool (tb_false (fun hr => by have := inB_true.2 (hr.2 _ (List.getElem_mem hlt)); rw [hi] at this; cases this)).symm, rfl⟩
   ·go_wp2_with (go_at_call 21; refine (l00In_any _ _ _ _).mono ?_; rintro e w' ⟨rfl, rfl⟩)
    go_round
    case rel => exact ⟨k + 1, by omega, by go_num, noneB_succ hlt HT.out (by simp [hi])⟩
    case measure => simp [intOf]; omega
  ·obtain rfl : k = xs.length := by omega
   have hall : ∀ a ∈ xs, 0 ≤ a ∧ a ≤ size - 1 := fun a ha => by
    have := HT.out a (by rw [List.take_length]; exact ha)
    simpa [inB_true] using this
   have HR : Hid (true = tb (rowOk size xs.length xs)) := (tb_true ⟨rfl, hall⟩).symm
   clear hall
   go_wp2_with fail
   go_ret
   exact ⟨ret_bool HR.out, rfl⟩
theorem l03Counts_quiet (w : World) {v : Value} {f : Int × Int × List (Int × List Int)} (h : frmT.Pt w v f) :
  Calls Tryz.prog 20 #[v] w fun e w' => e = .returned (.bool (tb (frameOk f))) ∧ Quiet w w' := by
 obtain ⟨b, o, ad, cap, rfl, hb, hI, hI2, c0, c1, c2, hx⟩ := pt_trip h
 clear h
 cases h1 : inB f.1 1 4
 ·go_enter Tryz.func20, Tryz.ntmps20
  go_wp2_with fail
  have cA : ∀ n, Calls Tryz.prog 22 #[.int .i64 f.1] (w.drewN n) fun e w'' => e = .returned (.bool (inB f.1 1 4)) ∧ ∃ m, w'' = w.drewN m := fun n => (l01Arity_any _ _).mono fun e w'' ⟨he, hw⟩ => ⟨he, n, hw.symm⟩
  rw [h1] at cA
  go_quiet (exact cA _)
  go_wp2_with fail
  go_ret
  exact ⟨ret_bool (tb_false (fun hr => by have := inB_true.2 hr.1; rw [h1] at this; cases this)).symm, (by first | exact Quiet.refl _ | exact Quiet.drewN _ _ | exact (Quiet.drewN _ _).then (Quiet.drewN _ _) | exact ((Quiet.drewN _ _).then (Quiet.drewN _ _)).then (Quiet.drewN _ _))⟩
 have cA : ∀ n, Calls Tryz.prog 22 #[.int .i64 f.1] (w.drewN n) fun e w'' => e = .returned (.bool (inB f.1 1 4)) ∧ ∃ m, w'' = w.drewN m := fun n => (l01Arity_any _ _).mono fun e w'' ⟨he, hw⟩ => ⟨he, n, hw.symm⟩
 have cI : ∀ n, Calls Tryz.prog 21 #[.int .i64 f.2.1, .int .i64 f.1, .int .i64 8] (w.drewN n) fun e w'' => e = .returned (.bool (inB f.2.1 f.1 8)) ∧ ∃ m, w'' = w.drewN m := fun n => (l00In_any _ _ _ _).mono fun e w'' ⟨he, hw⟩ => ⟨he, n, hw.symm⟩
 rw [h1] at cA
 cases h2 : inB f.2.1 f.1 8
 ·rw [h2] at cI
  go_enter Tryz.func20, Tryz.ntmps20
  go_wp2_with fail
  go_quiet (first | exact cA _ | exact cI _)
  go_wp2_with fail
  go_ret
  exact ⟨ret_bool (tb_false (fun hr => by have := inB_true.2 hr.2.1; rw [h2] at this; cases this)).symm, (by first | exact Quiet.refl _ | exact Quiet.drewN _ _ | exact (Quiet.drewN _ _).then (Quiet.drewN _ _) | exact ((Quiet.drewN _ _).then (Quiet.drewN _ _)).then (Quiet.drewN _ _))⟩
 have HR : Hid (decide ((f.2.2.length : Int) ≤ 16) = tb (frameOk f)) := by
  unfold Hid
  rw [Bool.eq_iff_iff, tb_iff, decide_eq_true_iff]
  exact ⟨fun h => ⟨inB_true.1 h1, inB_true.1 h2, by omega⟩, fun h => by have := h.2.2; omega⟩
 rw [h2] at cI
 go_enter Tryz.func20, Tryz.ntmps20
 go_wp2_with fail
 go_quiet (first | exact cA _ | exact cI _)
 go_wp2_with fail
 go_ret
 exact ⟨ret_bool HR.out, (by first | exact Quiet.refl _ | exact Quiet.drewN _ _ | exact (Quiet.drewN _ _).then (Quiet.drewN _ _) | exact ((Quiet.drewN _ _).then (Quiet.drewN _ _)).then (Quiet.drewN _ _))⟩
end Go.Proofs.YtmnjlhcbabhhlaaGreatDoor
namespace Go.Proofs.YtmnjlhcbabhhlaaGreatDoor
theorem cellB {B b o : Nat} {w w' : World} (hb : RowKit.Below B w w') (h : b < B) : w'.cell? ⟨b, o, none⟩ = w.cell? ⟨b, o, none⟩ := hb.cell (p := ⟨b, o, none⟩) h
theorem frozenB {B b o : Nat} {w w' : World} (hb : RowKit.Below B w w') (h : b < B) : w'.frozen? ⟨b, o, none⟩ = w.frozen? ⟨b, o, none⟩ := hb.frozen (p := ⟨b, o, none⟩) h


section
variable {P : Program} {ops : Array Oper} {Q : Exit → Act → World → Prop} {md : Region.Mode} {S : World → Prop} {tail : List Nat}

/-- one of the last writes has come up -/
def pastB (tail : List Nat) (listed : Array Bool) : Bool := tail.any fun t => listed.getD t false

def wpAnyT (P : Program) (md : Region.Mode) (ops : Array Oper) (Q : Exit → Act → World → Prop) (S : World → Prop) (tail : List Nat) : Nat → Array Bool → Act → World → Prop
 | 0, listed, a, w => Region.ready md ops listed = [] ∧ Q .normal a w
 | fuel + 1, listed, a, w =>
  (Region.ready md ops listed = [] → Q .normal a w) ∧
  ∀ i ∈ Region.ready md ops listed, wpOp P ops Q i (fun a' w' => (pastB tail (listed.setIfInBounds i true) = false → S w') ∧ wpAnyT P md ops Q S tail fuel (listed.setIfInBounds i true) a' w') a w

theorem wpAny_of_T : ∀ (fuel : Nat) (listed : Array Bool) (a : Act) (w : World), wpAnyT P md ops Q S tail fuel listed a w → wpAny P md ops Q fuel listed a w
 | 0, _, _, _, h => h
 | fuel + 1, _, _, _, h => ⟨h.1, fun i hi => wpOp_mono (fun a' w' h' => wpAny_of_T fuel _ a' w' h'.2) (h.2 i hi)⟩

/-- what can come up while number i has not: all that are in R -/
def lowB (md : Region.Mode) (ops : Array Oper) (i : Nat) (listed R : Array Bool) (tail : List Nat) : Bool :=
 ((List.range ops.size).all fun k => k == i || R.getD k false || match ops[k]? with
  | some o => o.after.any fun e => Region.binds md e && !R.getD e.on false
  | none => true) && ((List.range ops.size).all fun k => !listed.getD k false || R.getD k false) && tail.all fun t => !R.getD t false && decide (t < ops.size) && t != i
/-- these -/
def grow1 (md : Region.Mode) (ops : Array Oper) (i : Nat) (R : Array Bool) : Array Bool :=
 (Array.range ops.size).map fun k => R.getD k false || (k != i && match ops[k]? with
  | some o => o.after.all fun e => !Region.binds md e || R.getD e.on false
  | none => false)
def lowSet (md : Region.Mode) (ops : Array Oper) (i : Nat) (listed : Array Bool) : Nat → Array Bool
 | 0 => listed
 | n + 1 => grow1 md ops i (lowSet md ops i listed n)
def lateB (md : Region.Mode) (ops : Array Oper) (i : Nat) (listed : Array Bool) (tail : List Nat) : Bool := lowB md ops i listed (lowSet md ops i listed ops.size) tail

structure Low (md : Region.Mode) (ops : Array Oper) (i : Nat) (R : Array Bool) (tail : List Nat) : Prop where
 up : ∀ (k : Nat) (o : Oper), ops[k]? = some o → k ≠ i → (∀ e ∈ o.after, Region.binds md e = true → R.getD e.on false = true) → R.getD k false = true
 out : ∀ t ∈ tail, R.getD t false = false
 ne : ∀ t ∈ tail, t ≠ i
theorem lowB_spec {i : Nat} {listed R : Array Bool} (h : lowB md ops i listed R tail = true) : Low md ops i R tail ∧ ∀ k, k < ops.size → listed.getD k false = true → R.getD k false = true := by
 unfold lowB at h
 simp only [Bool.and_eq_true, List.all_eq_true, List.mem_range] at h
 obtain ⟨⟨h1, h2⟩, h3⟩ := h
 refine ⟨⟨fun k o ho hk hd => ?_, fun t ht => by have := (h3 t ht).1.1; simpa using this, fun t ht => by have := (h3 t ht).2; simpa using this⟩, fun k hk hl => ?_⟩
 ·have hks : k < ops.size := by
   rcases Nat.lt_or_ge k ops.size with h' | h'
   ·exact h'
   ·rw [Array.getElem?_eq_none h'] at ho; cases ho
  have := h1 k hks
  rw [ho] at this
  simp only [Bool.or_eq_true, beq_iff_eq] at this
  rcases this with (rfl | h') | h'
  ·exact absurd rfl hk
  ·exact h'
  ·simp only [Array.any_eq_true, Bool.and_eq_true, Bool.not_eq_true'] at h'
   obtain ⟨x, hx, hb⟩ := h'
   rw [hd _ (Array.getElem_mem hx) hb.1] at hb
   cases hb.2
 ·have := h2 k hk
  rw [hl] at this
  simpa using this

theorem low_step {i j : Nat} {listed R : Array Bool} (hL : Low md ops i R tail) (hsub : ∀ k, k < ops.size → listed.getD k false = true → R.getD k false = true) (hbd : ∀ (k : Nat) (o : Oper), ops[k]? = some o → ∀ e ∈ o.after, Region.binds md e = true → e.on < ops.size)
  (hj : j ∈ Region.ready md ops listed) (hji : j ≠ i) : R.getD j false = true ∧ ∀ k, k < ops.size → (listed.setIfInBounds j true).getD k false = true → R.getD k false = true := by
 obtain ⟨-, oj, hoj, hall⟩ := mem_ready.1 hj
 have hR : R.getD j false = true := hL.up j oj hoj hji fun e he hb => hsub e.on (hbd j oj hoj e he hb) (hall e he hb)
 refine ⟨hR, fun k hk hl => ?_⟩
 by_cases e : j = k
 ·subst e; exact hR
 ·rw [getD_set_ne false e] at hl; exact hsub k hk hl

theorem past_false {R listed : Array Bool} {i : Nat} (hL : Low md ops i R tail) (ht : ∀ t ∈ tail, t < ops.size) (hsub : ∀ k, k < ops.size → listed.getD k false = true → R.getD k false = true) : pastB tail listed = false := by
 unfold pastB
 rw [List.any_eq_false]
 intro t htl hh
 have := hsub t (ht t htl) hh
 rw [hL.out t htl] at this
 cases this

theorem wpAnyT_first {i : Nat} {oi : Oper} {v : Value} (hi : ops[i]? = some oi) (hsel : ∀ (j : Nat) (o : Oper) cs b, ops[j]? = some o → o.op ≠ .select cs b)
  (hQ : ∀ c a w, Q (.panic c) (a.put oi.dst v) w → Q (.panic c) a w) {R : Array Bool} (hL : Low md ops i R tail) (ht : ∀ t ∈ tail, t < ops.size) (hbd : ∀ (k : Nat) (o : Oper), ops[k]? = some o → ∀ e ∈ o.after, Region.binds md e = true → e.on < ops.size) :
  ∀ (fuel : Nat) (listed : Array Bool) (a : Act) (w : World),
   (∀ j oj, ops[j]? = some oj → j ≠ i → listed.getD j true = false → (∀ e ∈ oj.after, Region.binds md e = true → e.on ≠ i) → oi.apart ops oj = true) →
   i ∈ Region.ready md ops listed → YieldsIf P ops S oi v a → S w → (∀ k, k < ops.size → listed.getD k false = true → R.getD k false = true) →
   wpAnyT P md ops Q S tail fuel (listed.setIfInBounds i true) (a.put oi.dst v) w → wpAnyT P md ops Q S tail (fuel + 1) listed a w := by
 intro fuel
 induction fuel with
 | zero =>
  intro listed a w _ hr hy hS hsub H
  refine ⟨fun h => (by rw [h] at hr; cases hr), fun j hj => ?_⟩
  by_cases hji : j = i
  ·subst hji; exact hy.wpOp hi hS ⟨fun _ => hS, H⟩
  ·have := ready_mono hj hji
   rw [H.1] at this
   cases this
 | succ fuel ih =>
  intro listed a w hfree hr hy hS hsub H
  refine ⟨fun h => (by rw [h] at hr; cases hr), fun j hj => ?_⟩
  by_cases hji : j = i
  ·subst hji; exact hy.wpOp hi hS ⟨fun _ => hS, H⟩
  ·have h1 := H.2 j (ready_mono hj hji)
   obtain ⟨hjun, oj, hoj, hall⟩ := mem_ready.1 hj
   have hnot : ∀ e ∈ oj.after, Region.binds md e = true → e.on ≠ i := fun e he hb heq => by
    have h1 := hall e he hb
    have h0 := (mem_ready.1 hr).1
    rw [heq] at h1
    rcases Nat.lt_or_ge i listed.size with h' | h'
    ·simp [h'] at h0 h1; rw [h0] at h1; cases h1
    ·simp [Array.getElem?_eq_none h'] at h1
   have h2 := wpOp_putIf hoj (hfree j oj hoj hji hjun hnot) (fun cs b => hsel i oi cs b hi) (fun cs b => hsel j oj cs b hoj) hQ hy h1
   have hfree' : ∀ k ok, ops[k]? = some ok → k ≠ i → (listed.setIfInBounds j true).getD k true = false →
     (∀ e ∈ ok.after, Region.binds md e = true → e.on ≠ i) → oi.apart ops ok = true := fun k ok hk hki hun hno => by
    refine hfree k ok hk hki ?_ hno
    by_cases hjk : j = k
    ·subst hjk; exact hjun
    ·rw [getD_set_ne true hjk] at hun; exact hun
   obtain ⟨-, hsub'⟩ := low_step hL hsub hbd hj hji
   have hp : pastB tail ((listed.setIfInBounds i true).setIfInBounds j true) = false := by
    have h0 := past_false hL ht hsub'
    rw [Array.setIfInBounds_comm _ _ (Ne.symm hji)]
    unfold pastB at h0 ⊢
    rw [List.any_eq_false] at h0 ⊢
    intro t htl hh
    rw [getD_set_ne false (Ne.symm (hL.ne t htl))] at hh
    exact h0 t htl hh
   refine wpOp_mono (fun a' w' h3 => ⟨fun _ => h3.2.1 hp, ih (listed.setIfInBounds j true) a' w' hfree' (ready_mono hr (Ne.symm hji)) h3.1 (h3.2.1 hp) hsub' ?_⟩) h2
   rw [Array.setIfInBounds_comm _ _ hji]
   exact h3.2.2

/-- every edge leads to an operation -/
def edgesB (md : Region.Mode) (ops : Array Oper) : Bool := ops.all fun o => o.after.all fun e => !Region.binds md e || decide (e.on < ops.size)
theorem edgesB_spec (h : edgesB md ops = true) : ∀ (k : Nat) (o : Oper), ops[k]? = some o → ∀ e ∈ o.after, Region.binds md e = true → e.on < ops.size := by
 intro k o ho e he hb
 have h1 := Array.all_eq_true_iff_forall_mem.1 h o (Array.mem_of_getElem? ho)
 have h2 := Array.all_eq_true_iff_forall_mem.1 h1 e he
 simpa [hb] using h2

/-- take number i first -/
theorem wpAnyT_take {i : Nat} {oi : Oper} {v : Value} {fuel : Nat} {listed : Array Bool} {a : Act} {w : World} (hi : ops[i]? = some oi)
  (hs : (Region.noSelect ops && edgesB md ops && Region.free md ops listed i && (Region.ready md ops listed).contains i && lateB md ops i listed tail) = true)
  (hQ : ∀ c a w, Q (.panic c) (a.put oi.dst v) w → Q (.panic c) a w) (hy : YieldsIf P ops S oi v a) (hS : S w)
  (h : wpAnyT P md ops Q S tail fuel (listed.setIfInBounds i true) (a.put oi.dst v) w) : wpAnyT P md ops Q S tail (fuel + 1) listed a w := by
 simp only [Bool.and_eq_true] at hs
 obtain ⟨⟨⟨⟨s1, s2⟩, s3⟩, s4⟩, s5⟩ := hs
 obtain ⟨hL, hsub⟩ := lowB_spec s5
 have ht : ∀ t ∈ tail, t < ops.size := fun t ht => by
  unfold lateB lowB at s5
  simp only [Bool.and_eq_true, List.all_eq_true] at s5
  simpa using (s5.2 t ht).1.2
 exact wpAnyT_first hi (Region.noSelect_spec s1) hQ hL ht (edgesB_spec s2) fuel listed a w (Region.free_spec hi s3) (by simpa using s4) hy hS hsub h

/-- what yields in whatever world: taken first, also where the condition holds no more -/
theorem wpAnyT_free {i : Nat} {oi : Oper} {v : Value} (hi : ops[i]? = some oi) (hsel : ∀ (j : Nat) (o : Oper) cs b, ops[j]? = some o → o.op ≠ .select cs b)
  (hQ : ∀ c a w, Q (.panic c) (a.put oi.dst v) w → Q (.panic c) a w) (hti : i ∉ tail) :
  ∀ (fuel : Nat) (listed : Array Bool) (a : Act) (w : World),
   (∀ j oj, ops[j]? = some oj → j ≠ i → listed.getD j true = false → (∀ e ∈ oj.after, Region.binds md e = true → e.on ≠ i) → oi.apart ops oj = true) →
   i ∈ Region.ready md ops listed → YieldsIf P ops (fun _ => True) oi v a → (pastB tail listed = false → S w) →
   wpAnyT P md ops Q S tail fuel (listed.setIfInBounds i true) (a.put oi.dst v) w → wpAnyT P md ops Q S tail (fuel + 1) listed a w := by
 have hpi : ∀ L : Array Bool, pastB tail (L.setIfInBounds i true) = pastB tail L := fun L => by
  unfold pastB
  rw [Bool.eq_iff_iff]
  simp only [List.any_eq_true]
  constructor
  ·rintro ⟨t, h1, h2⟩; exact ⟨t, h1, by rwa [getD_set_ne false (show i ≠ t from fun e => hti (by rw [e]; exact h1))] at h2⟩
  ·rintro ⟨t, h1, h2⟩; exact ⟨t, h1, by rwa [getD_set_ne false (show i ≠ t from fun e => hti (by rw [e]; exact h1))]⟩
 intro fuel
 induction fuel with
 | zero =>
  intro listed a w _ hr hy hS H
  refine ⟨fun h => (by rw [h] at hr; cases hr), fun j hj => ?_⟩
  by_cases hji : j = i
  ·subst hji; exact hy.wpOp hi trivial ⟨fun hp => hS (by rw [← hpi]; exact hp), H⟩
  ·have := ready_mono hj hji
   rw [H.1] at this
   cases this
 | succ fuel ih =>
  intro listed a w hfree hr hy hS H
  refine ⟨fun h => (by rw [h] at hr; cases hr), fun j hj => ?_⟩
  by_cases hji : j = i
  ·subst hji; exact hy.wpOp hi trivial ⟨fun hp => hS (by rw [← hpi]; exact hp), H⟩
  ·have h1 := H.2 j (ready_mono hj hji)
   obtain ⟨hjun, oj, hoj, hall⟩ := mem_ready.1 hj
   have hnot : ∀ e ∈ oj.after, Region.binds md e = true → e.on ≠ i := fun e he hb heq => by
    have h1 := hall e he hb
    have h0 := (mem_ready.1 hr).1
    rw [heq] at h1
    rcases Nat.lt_or_ge i listed.size with h' | h'
    ·simp [h'] at h0 h1; rw [h0] at h1; cases h1
    ·simp [Array.getElem?_eq_none h'] at h1
   have h2 := wpOp_putIf hoj (hfree j oj hoj hji hjun hnot) (fun cs b => hsel i oi cs b hi) (fun cs b => hsel j oj cs b hoj) hQ hy h1
   have hfree' : ∀ k ok, ops[k]? = some ok → k ≠ i → (listed.setIfInBounds j true).getD k true = false →
     (∀ e ∈ ok.after, Region.binds md e = true → e.on ≠ i) → oi.apart ops ok = true := fun k ok hk hki hun hno => by
    refine hfree k ok hk hki ?_ hno
    by_cases hjk : j = k
    ·subst hjk; exact hjun
    ·rw [getD_set_ne true hjk] at hun; exact hun
   refine wpOp_mono (fun a' w' h3 => ⟨fun hp => h3.2.1 (by rw [Array.setIfInBounds_comm _ _ (Ne.symm hji), hpi]; exact hp), ih (listed.setIfInBounds j true) a' w' hfree' (ready_mono hr (Ne.symm hji)) h3.1 (fun hp => h3.2.1 (by rw [Array.setIfInBounds_comm _ _ (Ne.symm hji), hpi]; exact hp)) ?_⟩) h2
   rw [Array.setIfInBounds_comm _ _ hji]
   exact h3.2.2
theorem wpAnyT_any {i : Nat} {oi : Oper} {v : Value} {fuel : Nat} {listed : Array Bool} {a : Act} {w : World} (hi : ops[i]? = some oi)
  (hs : (Region.noSelect ops && Region.free md ops listed i && (Region.ready md ops listed).contains i && !tail.contains i) = true)
  (hQ : ∀ c a w, Q (.panic c) (a.put oi.dst v) w → Q (.panic c) a w) (hy : YieldsIf P ops (fun _ => True) oi v a) (hS : pastB tail listed = false → S w)
  (h : wpAnyT P md ops Q S tail fuel (listed.setIfInBounds i true) (a.put oi.dst v) w) : wpAnyT P md ops Q S tail (fuel + 1) listed a w := by
 simp only [Bool.and_eq_true] at hs
 obtain ⟨⟨⟨s1, s2⟩, s3⟩, s4⟩ := hs
 exact wpAnyT_free hi (Region.noSelect_spec s1) hQ (by simpa using s4) fuel listed a w (Region.free_spec hi s2) (by simpa using s3) hy hS h

/-- one alone may come up: not one of the last -/
theorem wpAnyT_one {i : Nat} {o : Oper} {fuel : Nat} {listed : Array Bool} {a : Act} {w : World} (ho : ops[i]? = some o) (hr : Region.ready md ops listed = [i])
  (h : ∀ K' : Act → World → Prop, Shut (∀ a w, S w → (S w → wpAnyT P md ops Q S tail fuel (listed.setIfInBounds i true) a w) → K' a w) → if Region.wanted o (yielded ops a.tmps) = true then Oper.wp P o a w K' Q else K' (a.put o.dst undef) w) :
  wpAnyT P md ops Q S tail (fuel + 1) listed a w := by
 refine ⟨fun h0 => (by rw [h0] at hr; cases hr), fun j hj => ?_⟩
 rw [hr] at hj
 obtain rfl : j = i := by simpa using hj
 exact wpOp_step ho (fun K' hK => h K' (fun a w hS hW => hK a w ⟨fun _ => hS, hW hS⟩))
/-- one alone may come up: one of the last, or behind them -/
theorem wpAnyT_last {i : Nat} {o : Oper} {fuel : Nat} {listed : Array Bool} {a : Act} {w : World} (ho : ops[i]? = some o) (hr : Region.ready md ops listed = [i]) (hp : pastB tail (listed.setIfInBounds i true) = true)
  (h : ∀ K' : Act → World → Prop, Shut (∀ a w, wpAnyT P md ops Q S tail fuel (listed.setIfInBounds i true) a w → K' a w) → if Region.wanted o (yielded ops a.tmps) = true then Oper.wp P o a w K' Q else K' (a.put o.dst undef) w) :
  wpAnyT P md ops Q S tail (fuel + 1) listed a w := by
 refine ⟨fun h0 => (by rw [h0] at hr; cases hr), fun j hj => ?_⟩
 rw [hr] at hj
 obtain rfl : j = i := by simpa using hj
 exact wpOp_step ho (fun K' hK => h K' (fun a w hW => hK a w ⟨fun h => (by rw [hp] at h; cases h), hW⟩))
theorem wpAnyT_done {listed : Array Bool} {a : Act} {w : World} (hr : Region.ready md ops listed = []) (h : Q .normal a w) :
  ∀ fuel, wpAnyT P md ops Q S tail fuel listed a w
 | 0 => ⟨hr, h⟩
 | _ + 1 => ⟨fun _ => h, by rw [hr]; simp⟩
theorem wp_region_T (S : World → Prop) (tail : List Nat) {id : Nat} {a : Act} {w : World} (hm : P.follows .mixedOrders = true) (hS : S w.drew)
  (h : S w.drew → wpAnyT P .any ops Q S tail ops.size (Array.replicate ops.size false) a w.drew) : (Code.region id ops true).wp P Q a w :=
 wp_region_any hm (wpAny_of_T _ _ _ _ (h hS))
end
end Go.Proofs.YtmnjlhcbabhhlaaGreatDoor
