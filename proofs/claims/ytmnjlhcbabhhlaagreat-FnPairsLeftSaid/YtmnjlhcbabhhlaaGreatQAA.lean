/-
What a value reads as, in a world: numbers, slices, structs by value; which blocks hold it; that it stays while these blocks stay. No program is named here.
Slices of the call's own: built by append or by make and stores; what they read as, in which blocks; the law of an append in these words. No program is named here.
A region that draws its order, whose operations read, compute, and call functions that make new memory: one account serves every order. Of each operation's value only a predicate is told (a copy lies somewhere in new memory), and it must outlast new memory. No program is named here.
Marks: what a write into all numbers of a datum's memory changes, and what the datum then reads as. No program is named here.
The law of an append of a whole row: 'append(a, b...)', where b is new data. No program is named here.
The law of an append of a row that lies in older memory. No program is named here.
Plain mathematics of the search for operations: the program's recursion and the reference's steps answer alike. No program is named here.
Contracts of the smallest functions: tests on numbers.
-/
import Derived.WalkKit
import Derived.WalkLawsBesides
import Derived.WalkSpells
import Derived.Deep.QuietTactic
import Derived.BigQuiet
import Derived.Lib.Hide
import Derived.Deep.RegionHeldLaw
import Derived.Test.YtmnjlhcbabhhlaaGreatRows
namespace Go.Proofs.YtmnjlhcbabhhlaaGreat
open Go.RowKit

def inB (a lo hi : Int) : Bool := decide (lo ≤ a) && decide (a ≤ hi)
theorem inB_lt {a lo hi : Int} (h : a < lo) : inB a lo hi = false := by simp [inB]; omega
theorem inB_le {a lo hi : Int} (h : lo ≤ a) : inB a lo hi = decide (a ≤ hi) := by simp [inB, h]
theorem inB_true {a lo hi : Int} : inB a lo hi = true ↔ lo ≤ a ∧ a ≤ hi := by simp [inB]
theorem ret_bool {a b : Bool} (h : a = b) : Ending.returned (.bool a) = .returned (.bool b) := by rw [h]
theorem ret_int {a b : Int} (h : a = b) : Ending.returned (.int .i64 a) = .returned (.int .i64 b) := by rw [h]

theorem ilt (a b : Int) : a < b ∨ b ≤ a := by omega
/-- equality as a test, behind a name -/
def eqB {α : Type} [DecidableEq α] (x y : α) : Bool := decide (x = y)
theorem eqB_len {α : Type} [DecidableEq α] {x y : List α} (h : x.length ≠ y.length) : eqB x y = false := decide_eq_false fun e => h (by rw [e])
theorem eqB_true {α : Type} [DecidableEq α] {x y : α} (h : x = y) : eqB x y = true := decide_eq_true h
theorem eqB_iff {α : Type} [DecidableEq α] {x y : α} : eqB x y = true ↔ x = y := decide_eq_true_iff
theorem eqB_get {α : Type} [DecidableEq α] {x y : List α} {k : Nat} (h : k < x.length) (h' : k < y.length) (hne : x[k] ≠ y[k]) : eqB x y = false :=
 decide_eq_false fun e => by subst e; exact hne rfl
theorem eqB_fst {α β : Type} [DecidableEq α] [DecidableEq β] {x y : α × β} (h : x.1 ≠ y.1) : eqB x y = false := decide_eq_false fun e => h (by rw [e])
theorem eqB_snd {α β : Type} [DecidableEq α] [DecidableEq β] {x y : α × β} {b : Bool} (h : x.1 = y.1) (hb : eqB x.2 y.2 = b) : eqB x y = b := by
 rw [← hb]
 obtain ⟨x1, x2⟩ := x
 obtain ⟨y1, y2⟩ := y
 obtain rfl : x1 = y1 := h
 simp [eqB]
theorem take_eq_succ {α : Type} {x y : List α} {k : Nat} (h : k < x.length) (h' : k < y.length) (ht : x.take k = y.take k) (he : x[k] = y[k]) : x.take (k + 1) = y.take (k + 1) := by
 rw [List.take_succ_eq_append_getElem h, List.take_succ_eq_append_getElem h', ht, he]
/-- the world after some draws -/
def Quiet (w w' : World) : Prop := ∃ n, w' = w.drewN n
theorem Quiet.refl (w : World) : Quiet w w := ⟨0, rfl⟩
theorem Quiet.drewN (w : World) (n : Nat) : Quiet w (w.drewN n) := ⟨n, rfl⟩
theorem Quiet.then {w w' w'' : World} (h : Quiet w w') (h' : Quiet w' w'') : Quiet w w'' := by
 obtain ⟨n, rfl⟩ := h
 obtain ⟨m, rfl⟩ := h'
 exact ⟨n + m, World.drewN_drewN _ _ _⟩
theorem Quiet.below {w w' : World} (h : Quiet w w') : Below w.heap.size w w' := by
 obtain ⟨n, rfl⟩ := h
 exact ⟨rfl, rfl, rfl, Nat.le_refl _, fun _ _ => rfl⟩
/-- a number of 64 bits -/
def I64 (n : Int) : Prop := -9223372036854775808 ≤ n ∧ n ≤ 9223372036854775807
theorem I64.of {n : Int} (h : (Lit.int .i64 n).wf = true) : I64 n := by simpa [Lit.wf, IntKind.min, IntKind.max, IntKind.signed, IntKind.bits, I64] using h
theorem I64.small {n : Int} (h : -1000000000000000000 ≤ n) (h' : n ≤ 1000000000000000000) : I64 n := ⟨by omega, by omega⟩

/-- the size of a world's heap, behind a name -/
def Same (fp : List Nat) (w w' : World) : Prop := ∀ k ∈ fp, w'.heap[k]? = w.heap[k]?
theorem Same.below {B : Nat} {w w' : World} {fp : List Nat} (h : Below B w w') (hf : ∀ k ∈ fp, k < B) : Same fp w w' := fun k hk => h.block k (hf k hk)
theorem Same.refl (fp : List Nat) (w : World) : Same fp w w := fun _ _ => rfl
theorem Same.trans {fp : List Nat} {a b c : World} (h : Same fp a b) (h' : Same fp b c) : Same fp a c := fun k hk => (h' k hk).trans (h k hk)

theorem cell_lt {w : World} {b o : Nat} {v : Value} (h : w.cell? ⟨b, o, none⟩ = some v) : b < w.heap.size := by
 rcases Nat.lt_or_ge b w.heap.size with h' | h'
 ·exact h'
 ·simp [World.cell?, Array.getElem?_eq_none h'] at h

/-- a kind of datum: how many cells it takes, and what it is to read as one, through which blocks -/
structure Ty (α : Type) where
 sz : Nat
 rd : World → List Value → α → List Nat → Prop
 len : ∀ {w cs x fp}, rd w cs x fp → cs.length = sz
 same : ∀ {w w' cs x fp}, rd w cs x fp → Same fp w w' → rd w' cs x fp
 lt : ∀ {w cs x fp}, rd w cs x fp → ∀ k ∈ fp, k < w.heap.size
 one : ∀ {w cs x fp}, rd w cs x fp → ∀ u ∈ cs, u.oneCell' = true

def Ty.Rd {α : Type} (E : Ty α) (w : World) (cs : List Value) (x : α) : Prop := ∃ fp, E.rd w cs x fp
theorem Ty.Rd.below {α : Type} {E : Ty α} {w w' : World} {cs : List Value} {x : α} (h : E.Rd w cs x) (hb : Below w.heap.size w w') : E.Rd w' cs x :=
 let ⟨fp, h⟩ := h; ⟨fp, E.same h (Same.below hb (E.lt h))⟩
/-- read in blocks below B -/
def Ty.RdB {α : Type} (E : Ty α) (B : Nat) (w : World) (cs : List Value) (x : α) : Prop := ∃ fp, E.rd w cs x fp ∧ ∀ k ∈ fp, k < B
theorem Ty.RdB.rd {α : Type} {E : Ty α} {B : Nat} {w : World} {cs : List Value} {x : α} (h : E.RdB B w cs x) : E.Rd w cs x := let ⟨fp, h, _⟩ := h; ⟨fp, h⟩
theorem Ty.Rd.B {α : Type} {E : Ty α} {w : World} {cs : List Value} {x : α} (h : E.Rd w cs x) : E.RdB w.heap.size w cs x := let ⟨fp, h⟩ := h; ⟨fp, h, E.lt h⟩
theorem Ty.RdB.below {α : Type} {E : Ty α} {B B' : Nat} {w w' : World} {cs : List Value} {x : α} (h : E.RdB B w cs x) (hb : Below B' w w') (hB : B ≤ B') : E.RdB B w' cs x :=
 let ⟨fp, h, hf⟩ := h; ⟨fp, E.same h (fun k hk => hb.block k (Nat.lt_of_lt_of_le (hf k hk) hB)), hf⟩
theorem Ty.RdB.mono {α : Type} {E : Ty α} {B B' : Nat} {w : World} {cs : List Value} {x : α} (h : E.RdB B w cs x) (hB : B ≤ B') : E.RdB B' w cs x :=
 let ⟨fp, h, hf⟩ := h; ⟨fp, h, fun k hk => Nat.lt_of_lt_of_le (hf k hk) hB⟩

def Ty.int : Ty Int where
 sz := 1
 rd := fun _ cs n fp => cs = [.int .i64 n] ∧ I64 n ∧ fp = []
 len := by rintro _ _ _ _ ⟨rfl, _, _⟩; rfl
 same := fun h _ => h
 lt := by rintro _ _ _ _ ⟨rfl, _, rfl⟩ k hk; cases hk
 one := by rintro _ _ _ _ ⟨rfl, _, _⟩ u hu; simp at hu; subst hu; rfl

def Ty.bool : Ty Bool where
 sz := 1
 rd := fun _ cs n fp => cs = [.bool n] ∧ fp = []
 len := by rintro _ _ _ _ ⟨rfl, _⟩; rfl
 same := fun h _ => h
 lt := by rintro _ _ _ _ ⟨rfl, rfl⟩ k hk; cases hk
 one := by rintro _ _ _ _ ⟨rfl, _⟩ u hu; simp at hu; subst hu; rfl

/-- a bound on every slice's capacity -/
def capMax : Nat := 140737488351232

/-- the cells of a row of elements -/
def rowRd {α : Type} (E : Ty α) (w : World) (b o : Nat) (xs : List α) (fps : Nat → List Nat) : Prop :=
 ∀ i (h : i < xs.length), ∃ cs, E.rd w cs xs[i] (fps i) ∧ ∀ j (hj : j < cs.length), w.cell? ⟨b, o + i * E.sz + j, none⟩ = some cs[j]

def sliceRd {α : Type} (E : Ty α) (w : World) (cs : List Value) (xs : List α) (fp : List Nat) : Prop :=
 ∃ ad cap, cs = [.slice ad xs.length cap] ∧ xs.length ≤ cap ∧ xs.length ≤ capMax ∧
  ((xs.length = 0 ∧ fp = []) ∨ (0 < xs.length ∧ ∃ b o fps, ad = some ⟨b, o, none⟩ ∧ b < w.heap.size ∧ fp = b :: (List.range xs.length).flatMap fps ∧ rowRd E w b o xs fps))

theorem rowRd.same {α : Type} {E : Ty α} {w w' : World} {b o : Nat} {xs : List α} {fps : Nat → List Nat} (h : rowRd E w b o xs fps) (hs : Same (b :: (List.range xs.length).flatMap fps) w w') : rowRd E w' b o xs fps := by
 intro i hi
 obtain ⟨cs, h1, h2⟩ := h i hi
 refine ⟨cs, E.same h1 fun k hk => hs k (List.mem_cons_of_mem _ (List.mem_flatMap.2 ⟨i, by simpa using hi, hk⟩)), fun j hj => ?_⟩
 rw [← h2 j hj]
 exact World.cell?_of_block (hs b (List.mem_cons_self ..))

def Ty.slice {α : Type} (E : Ty α) : Ty (List α) where
 sz := 1
 rd := sliceRd E
 len := by rintro _ _ _ _ ⟨_, _, rfl, _⟩; rfl
 same := by
  rintro w w' _ xs fp ⟨ad, cap, rfl, h1, h2, h3⟩ hs
  refine ⟨ad, cap, rfl, h1, h2, ?_⟩
  rcases h3 with h3 | ⟨h3, b, o, fps, rfl, hb, rfl, h4⟩
  ·exact .inl h3
  ·refine .inr ⟨h3, b, o, fps, rfl, ?_, rfl, h4.same hs⟩
   have := hs b (List.mem_cons_self ..)
   rcases Nat.lt_or_ge b w'.heap.size with h' | h'
   ·exact h'
   ·rw [Array.getElem?_eq_none h', Array.getElem?_eq_getElem hb] at this
    cases this
 lt := by
  rintro w _ xs fp ⟨ad, cap, rfl, h1, h2, h3⟩ k hk
  rcases h3 with ⟨_, rfl⟩ | ⟨h3, b, o, fps, rfl, hb, rfl, h4⟩
  ·cases hk
  ·rcases List.mem_cons.1 hk with rfl | hk
   ·exact hb
   ·obtain ⟨i, hi, hk⟩ := List.mem_flatMap.1 hk
    obtain ⟨cs, h5, _⟩ := h4 i (by simpa using hi)
    exact E.lt h5 k hk
 one := by rintro _ _ _ _ ⟨_, _, rfl, _⟩ u hu; simp at hu; subst hu; rfl

/-- a number, and behind it something else: a struct -/
def Ty.cons {α : Type} (E : Ty α) : Ty (Int × α) where
 sz := 1 + E.sz
 rd := fun w cs x fp => ∃ cs', cs = .int .i64 x.1 :: cs' ∧ I64 x.1 ∧ E.rd w cs' x.2 fp
 len := by rintro _ _ _ _ ⟨cs', rfl, _, h⟩; rw [List.length_cons, E.len h]; omega
 same := by rintro _ _ _ _ _ ⟨cs', rfl, h1, h⟩ hs; exact ⟨cs', rfl, h1, E.same h hs⟩
 lt := by rintro _ _ _ _ ⟨cs', rfl, _, h⟩; exact E.lt h
 one := by
  rintro _ _ _ _ ⟨cs', rfl, _, h⟩ u hu
  rcases List.mem_cons.1 hu with rfl | hu
  ·rfl
  ·exact E.one h u hu

abbrev intsT : Ty (List Int) := Ty.slice Ty.int
abbrev rowsT : Ty (List (List Int)) := Ty.slice intsT
abbrev relT : Ty (Int × List (List Int)) := Ty.cons rowsT
abbrev relsT : Ty (List (Int × List (List Int))) := Ty.slice relT
abbrev tplT : Ty (Int × List (Int × List (List Int))) := Ty.cons relsT
abbrev opT : Ty (Int × List Int) := Ty.cons intsT
abbrev opsT : Ty (List (Int × List Int)) := Ty.slice opT
abbrev instT : Ty (Int × List (Int × List Int)) := Ty.cons opsT
/-! what a reading gives -/
theorem Ty.slice_ex {α : Type} {E : Ty α} {w : World} {cs : List Value} {xs : List α} (h : (Ty.slice E).Rd w cs xs) :
  ∃ ad cap, cs = [.slice ad xs.length cap] ∧ xs.length ≤ cap ∧ xs.length ≤ 140737488351232 ∧
   (0 < xs.length → ∃ b o, ad = some ⟨b, o, none⟩ ∧ b < w.heap.size ∧ ∀ i (h : i < xs.length), ∃ cs, E.Rd w cs xs[i] ∧ ∀ j (hj : j < cs.length), w.cell? ⟨b, o + i * E.sz + j, none⟩ = some cs[j]) := by
 obtain ⟨fp, ad, cap, rfl, h1, h2, h3⟩ := h
 refine ⟨ad, cap, rfl, h1, h2, fun hp => ?_⟩
 rcases h3 with h3 | ⟨h3, b, o, fps, rfl, hb, rfl, h4⟩
 ·omega
 ·exact ⟨b, o, rfl, hb, fun i hi => let ⟨cs, h5, h6⟩ := h4 i hi; ⟨cs, ⟨_, h5⟩, h6⟩⟩

theorem ints_ex {w : World} {cs : List Value} {xs : List Int} (h : intsT.Rd w cs xs) :
  ∃ ad cap, cs = [.slice ad xs.length cap] ∧ xs.length ≤ cap ∧ xs.length ≤ 140737488351232 ∧
   (0 < xs.length → ∃ b o, ad = some ⟨b, o, none⟩ ∧ b < w.heap.size ∧ ∀ i (h : i < xs.length), I64 xs[i] ∧ w.cell? ⟨b, o + i, none⟩ = some (.int .i64 xs[i])) := by
 obtain ⟨ad, cap, h1, h2, h3, h4⟩ := Ty.slice_ex h
 refine ⟨ad, cap, h1, h2, h3, fun hp => ?_⟩
 obtain ⟨b, o, h5, h6, h7⟩ := h4 hp
 refine ⟨b, o, h5, h6, fun i hi => ?_⟩
 obtain ⟨cs, ⟨fp, rfl, h8, h9⟩, h10⟩ := h7 i hi
 exact ⟨h8, by simpa [Ty.int] using h10 0 (by simp)⟩

/-- a row whose elements take one cell each -/
theorem slices_ex {α : Type} {E : Ty α} {w : World} {cs : List Value} {xs : List (List α)} (h : (Ty.slice (Ty.slice E)).Rd w cs xs) :
  ∃ ad cap, cs = [.slice ad xs.length cap] ∧ xs.length ≤ cap ∧ xs.length ≤ 140737488351232 ∧
   (0 < xs.length → ∃ b o, ad = some ⟨b, o, none⟩ ∧ b < w.heap.size ∧ ∀ i (h : i < xs.length), ∃ v, (Ty.slice E).Rd w [v] xs[i] ∧ w.cell? ⟨b, o + i, none⟩ = some v) := by
 obtain ⟨ad, cap, h1, h2, h3, h4⟩ := Ty.slice_ex h
 refine ⟨ad, cap, h1, h2, h3, fun hp => ?_⟩
 obtain ⟨b, o, h5, h6, h7⟩ := h4 hp
 refine ⟨b, o, h5, h6, fun i hi => ?_⟩
 obtain ⟨cs, h8, h10⟩ := h7 i hi
 obtain ⟨_, _, _, rfl, _⟩ := id h8
 exact ⟨_, h8, by simpa [Ty.slice] using h10 0 (by simp)⟩

/-- a row of structs of two cells: a number and a slice -/
theorem pairs_ex {α : Type} {E : Ty α} {w : World} {cs : List Value} {xs : List (Int × List α)} (h : (Ty.slice (Ty.cons (Ty.slice E))).Rd w cs xs) :
  ∃ ad cap, cs = [.slice ad xs.length cap] ∧ xs.length ≤ cap ∧ xs.length ≤ 140737488351232 ∧
   (0 < xs.length → ∃ b o, ad = some ⟨b, o, none⟩ ∧ b < w.heap.size ∧ ∀ i (h : i < xs.length), ∃ v, (Ty.slice E).Rd w [v] xs[i].2 ∧ I64 xs[i].1 ∧
    w.cell? ⟨b, o + i * 2, none⟩ = some (.int .i64 xs[i].1) ∧ w.cell? ⟨b, o + i * 2 + 1, none⟩ = some v) := by
 obtain ⟨ad, cap, h1, h2, h3, h4⟩ := Ty.slice_ex h
 refine ⟨ad, cap, h1, h2, h3, fun hp => ?_⟩
 obtain ⟨b, o, h5, h6, h7⟩ := h4 hp
 refine ⟨b, o, h5, h6, fun i hi => ?_⟩
 obtain ⟨cs, ⟨fp, cs', rfl, hI, h8⟩, h10⟩ := h7 i hi
 obtain ⟨_, _, rfl, _⟩ := id h8
 exact ⟨_, ⟨_, h8⟩, hI, by simpa [Ty.slice, Ty.cons] using h10 0 (by simp), by simpa [Ty.slice, Ty.cons] using h10 1 (by simp)⟩

theorem rd_slice {α : Type} {E : Ty α} {w : World} {u : Value} {x : List α} (h : (Ty.slice E).Rd w [u] x) : ∃ ad cap, u = .slice ad x.length cap :=
 let ⟨_, ad, cap, hu, _⟩ := h; ⟨ad, cap, by simpa using hu⟩
theorem pair_ex {α : Type} {E : Ty α} {w : World} {cs : List Value} {x : Int × List α} (h : (Ty.cons (Ty.slice E)).Rd w cs x) :
  ∃ v, cs = [.int .i64 x.1, v] ∧ I64 x.1 ∧ (Ty.slice E).Rd w [v] x.2 := by
 obtain ⟨fp, cs', rfl, h1, h2⟩ := h
 obtain ⟨_, _, rfl, _⟩ := id h2
 exact ⟨_, rfl, h1, _, h2⟩
theorem pair_mk {α : Type} {E : Ty α} {w : World} {n : Int} {v : Value} {x : List α} (h1 : I64 n) (h : (Ty.slice E).Rd w [v] x) : (Ty.cons (Ty.slice E)).Rd w [.int .i64 n, v] (n, x) :=
 let ⟨fp, h⟩ := h; ⟨fp, _, rfl, h1, h⟩
theorem bA {w : World} {o : Obj} : Below w.heap.size w (w.alloc o) := (Below.refl _ _).alloc (Nat.le_refl _) _
theorem bAA {w : World} {o o' : Obj} : Below w.heap.size w ((w.alloc o).alloc o') := bA.alloc (by simp) _
theorem bthen {w w1 w2 : World} (h : Below w.heap.size w w1) (h' : Below w1.heap.size w1 w2) : Below w.heap.size w w2 := h.trans (h'.mono h.size)
theorem bDN {B : Nat} {a w : World} {n : Nat} (h : Below B a w) : Below B a (w.drewN n) := ⟨h.os, h.tape, h.output, h.size, h.block⟩
theorem bD {w : World} : Below w.heap.size w w.drew := (Below.refl _ _).drew

/-- the first place at which p holds, or -1; whether there is one -/
def firstI {α : Type} (p : α → Bool) (xs : List α) : Int := match xs.findIdx? p with | some i => i | none => -1
def anyB {α : Type} (p : α → Bool) (xs : List α) : Bool := xs.any p
def noneB {α : Type} (p : α → Bool) (xs : List α) : Prop := ∀ x ∈ xs, p x = false
theorem noneB_zero {α : Type} (p : α → Bool) (xs : List α) : noneB p (xs.take 0) := by intro x hx; simp at hx
theorem noneB_succ {α : Type} {p : α → Bool} {xs : List α} {k : Nat} (h : k < xs.length) (ht : noneB p (xs.take k)) (hq : p xs[k] = false) : noneB p (xs.take (k + 1)) := by
 intro x hx
 rw [List.take_succ_eq_append_getElem h, List.mem_append] at hx
 rcases hx with hx | hx
 ·exact ht x hx
 ·simp at hx; rw [hx]; exact hq
theorem firstI_none {α : Type} {p : α → Bool} {xs : List α} (h : noneB p xs) : firstI p xs = -1 := by
 have : xs.findIdx? p = none := by rw [List.findIdx?_eq_none_iff]; exact h
 simp [firstI, this]
theorem firstI_at {α : Type} {p : α → Bool} {xs : List α} {k : Nat} (h : k < xs.length) (ht : noneB p (xs.take k)) (hq : p xs[k] = true) : firstI p xs = k := by
 have : xs.findIdx? p = some k := by
  rw [List.findIdx?_eq_some_iff_getElem]
  refine ⟨h, hq, fun j hj => ?_⟩
  have hj' : j < (xs.take k).length := by rw [List.length_take]; omega
  have := ht (xs.take k)[j] (List.getElem_mem hj')
  rw [List.getElem_take] at this
  simp [this]
 simp [firstI, this]
theorem firstI_any {α : Type} (p : α → Bool) (xs : List α) : decide (0 ≤ firstI p xs) = anyB p xs := by
 unfold firstI anyB
 cases h : xs.findIdx? p with
 | none => rw [List.findIdx?_eq_none_iff] at h; simp; exact h
 | some i =>
  rw [List.findIdx?_eq_some_iff_getElem] at h
  obtain ⟨h1, h2, _⟩ := h
  simp
  exact ⟨_, List.getElem_mem h1, h2⟩
theorem enters {P : Program} {f : FuncId} {fn : Func} {c : Code} (hf : P.funcs[f]? = some fn) (hname : (fn.name == "runtime.NumGoroutine") = false) (hb : fn.body = some c) : ∀ args w, (callFunc f args).run P w = .ok (.enter f args) w := by
 intro args w
 have h1 : fn.name ≠ "runtime.NumGoroutine" := by simpa using hname
 simp [callFunc, hf, h1, hb, mark]

theorem agg_of {cs : Array Value} {l : List Value} (h : cs.toList = l) : cs = l.toArray := by rw [← h]

/-- a pointer to a datum -/
def Ty.Pt {α : Type} (E : Ty α) (w : World) (v : Value) (x : α) : Prop := ∃ b o cs, v = .pointer (some ⟨b, o, none⟩) ∧ b < w.heap.size ∧ E.Rd w cs x ∧ ∀ j (hj : j < cs.length), w.cell? ⟨b, o + j, none⟩ = some cs[j]
theorem Ty.Pt.below {α : Type} {E : Ty α} {w w' : World} {v : Value} {x : α} (h : E.Pt w v x) (hb : Below w.heap.size w w') : E.Pt w' v x :=
 let ⟨b, o, cs, h1, h2, h3, h4⟩ := h
 ⟨b, o, cs, h1, Nat.lt_of_lt_of_le h2 hb.size, h3.below hb, fun j hj => (hb.cell h2).trans (h4 j hj)⟩
theorem pt_box {α : Type} {E : Ty α} {w : World} {cs : List Value} {x : α} {T : TypeId} (h : E.Rd w cs x) : E.Pt (w.alloc (.cells cs.toArray T)) (.pointer (some ⟨w.heap.size, 0, none⟩)) x :=
 ⟨_, 0, cs, rfl, by simp, h.below bA, fun j hj => by unfold World.cell?; rw [heap_alloc_new]; simp [hj]⟩
theorem pt_pair {α : Type} {E : Ty α} {w : World} {v : Value} {x : Int × List α} (h : (Ty.cons (Ty.slice E)).Pt w v x) :
  ∃ b o ad cap, v = .pointer (some ⟨b, o, none⟩) ∧ b < w.heap.size ∧ I64 x.1 ∧ w.cell? ⟨b, o, none⟩ = some (.int .i64 x.1) ∧ w.cell? ⟨b, o + 1, none⟩ = some (.slice ad x.2.length cap) ∧ (Ty.slice E).Rd w [.slice ad x.2.length cap] x.2 := by
 obtain ⟨b, o, cs, rfl, hb, h, hc⟩ := h
 obtain ⟨u, rfl, hI, hu⟩ := pair_ex h
 obtain ⟨ad, cap, rfl⟩ := rd_slice hu
 exact ⟨b, o, ad, cap, rfl, hb, hI, by simpa using hc 0 (by simp), by simpa using hc 1 (by simp), hu⟩
theorem pt_elem {α : Type} {E : Ty α} {w : World} {b o n cap : Nat} {xs : List α} (h : (Ty.slice E).Rd w [.slice (some ⟨b, o, none⟩) n cap] xs) {k : Nat} (hk : k < xs.length) : E.Pt w (.pointer (some ⟨b, o + k * E.sz, none⟩)) xs[k] := by
 obtain ⟨ad, cap', hv, _, _, h3⟩ := Ty.slice_ex h
 simp only [List.cons.injEq, Value.slice.injEq, and_true] at hv
 obtain ⟨rfl, rfl, rfl⟩ := hv
 obtain ⟨b', o', he, hb, h4⟩ := h3 (by omega)
 simp only [Option.some.injEq, Addr.mk.injEq, and_true] at he
 obtain ⟨rfl, rfl⟩ := he
 obtain ⟨cs, h5, h6⟩ := h4 k hk
 exact ⟨b, _, cs, rfl, hb, h5, h6⟩

theorem quiet_call {P : Program} {f : FuncId} {args : Array Value} {w : World} {n : Nat} {v : Value} (h : Calls P f args (w.drewN n) fun e w' => e = .returned v ∧ Quiet (w.drewN n) w') :
  Calls P f args (w.drewN n) fun e w'' => e = .returned v ∧ ∃ m, w'' = w.drewN m :=
 h.mono fun _ _ ⟨he, hm⟩ => ⟨he, (Quiet.drewN w n).then hm⟩

/-- all old cells and marks read as before -/
theorem bcell {W w1 : World} (hb : Below W.heap.size W w1) : (∀ b o, b < W.heap.size → w1.cell? ⟨b, o, none⟩ = W.cell? ⟨b, o, none⟩) ∧ (∀ b o, b < W.heap.size → w1.frozen? ⟨b, o, none⟩ = W.frozen? ⟨b, o, none⟩) :=
 ⟨fun b o h => hb.cell (p := ⟨b, o, none⟩) h, fun b o h => hb.frozen (p := ⟨b, o, none⟩) h⟩
end Go.Proofs.YtmnjlhcbabhhlaaGreat
namespace Go.Proofs.YtmnjlhcbabhhlaaGreat
open Go.RowKit

def Unf (w : World) (fp : List Nat) : Prop := ∀ b ∈ fp, ∀ o, w.frozen? ⟨b, o, none⟩ = false
theorem Unf.same {w w' : World} {fp : List Nat} (h : Unf w fp) (hs : Same fp w w') : Unf w' fp := fun b hb o => by
 rw [World.frozen?_of_block (w := w) (a := ⟨b, o, none⟩) (hs b hb)]; exact h b hb o

/-- read in blocks from base on, each once, none of them frozen: new memory that nothing else shares -/
def Ty.Fr {α : Type} (E : Ty α) (base : Nat) (w : World) (cs : List Value) (x : α) : Prop := ∃ fp, E.rd w cs x fp ∧ fp.Nodup ∧ (∀ b ∈ fp, base ≤ b) ∧ Unf w fp
theorem Ty.Fr.rd {α : Type} {E : Ty α} {base : Nat} {w : World} {cs : List Value} {x : α} (h : E.Fr base w cs x) : E.Rd w cs x := let ⟨fp, h, _⟩ := h; ⟨fp, h⟩
theorem Ty.Fr.mono {α : Type} {E : Ty α} {base base' : Nat} {w : World} {cs : List Value} {x : α} (h : E.Fr base w cs x) (hb : base' ≤ base) : E.Fr base' w cs x :=
 let ⟨fp, h1, h2, h3, h4⟩ := h; ⟨fp, h1, h2, fun b hb' => Nat.le_trans hb (h3 b hb'), h4⟩
theorem Ty.Fr.below {α : Type} {E : Ty α} {base : Nat} {w w' : World} {cs : List Value} {x : α} (h : E.Fr base w cs x) (hb : Below w.heap.size w w') : E.Fr base w' cs x :=
 let ⟨fp, h1, h2, h3, h4⟩ := h
 have hs : Same fp w w' := Same.below hb (E.lt h1)
 ⟨fp, E.same h1 hs, h2, h3, h4.same hs⟩
theorem fr_int {base : Nat} {w : World} {n : Int} (h : I64 n) : Ty.int.Fr base w [.int .i64 n] n := ⟨[], ⟨rfl, h, rfl⟩, List.nodup_nil, by simp, fun b hb => by cases hb⟩
theorem fr_cons {α : Type} {E : Ty α} {base : Nat} {w : World} {cs : List Value} {n : Int} {x : α} (h0 : I64 n) (h : E.Fr base w cs x) : (Ty.cons E).Fr base w (.int .i64 n :: cs) (n, x) :=
 let ⟨fp, h1, h2⟩ := h; ⟨fp, ⟨cs, rfl, h0, h1⟩, h2⟩
theorem fr_nil {α : Type} {E : Ty α} {base : Nat} {w : World} {ad : Option Addr} {cap : Nat} : (Ty.slice E).Fr base w [.slice ad 0 cap] [] :=
 ⟨[], ⟨ad, cap, rfl, Nat.zero_le _, Nat.zero_le _, .inl ⟨rfl, rfl⟩⟩, List.nodup_nil, by simp, fun b hb => by cases hb⟩

def els {α : Type} (E : Ty α) (w : World) (L : List Value) (ys : List α) (fps : Nat → List Nat) : Prop :=
 ∀ i (h : i < ys.length), ∃ cs, E.rd w cs ys[i] (fps i) ∧ ∀ j (hj : j < cs.length), L[i * E.sz + j]? = some cs[j]

abbrev flat (fps : Nat → List Nat) (n : Nat) : List Nat := (List.range n).flatMap fps

/-- a slice of the call's own that grows by append: its elements read as ys; every block lies in [base, top) -/
def Bl {α : Type} (E : Ty α) (e base top : Nat) (w : World) (v : Value) (ys : List α) : Prop :=
 ∃ L fps, w.ownsRow base e E.sz v ys.length L ∧ els E w L ys fps ∧ (flat fps ys.length).Nodup ∧ (∀ b ∈ flat fps ys.length, base ≤ b ∧ b < top ∧ v.ownBlock ≠ some b) ∧ (∀ g, v.ownBlock = some g → g < top) ∧ Unf w (flat fps ys.length)

section
variable {α : Type} {E : Ty α} {e base top : Nat} {w w' : World} {v : Value} {ys : List α}

theorem Bl.nil : Bl E e base top w (.slice none 0 0) [] :=
 ⟨[], fun _ => [], World.ownsRow_nil w base e E.sz, fun i h => by simp at h, by simp [flat], by simp [flat], by simp [Value.ownBlock], fun b hb => by simp [flat] at hb⟩

theorem Bl.lit0 (hb : base ≤ w.heap.size) : Bl E e base (w.heap.size + 1) (w.alloc (.cells #[] e)) (.slice (some ⟨w.heap.size, 0, none⟩) 0 0) [] :=
 ⟨[], fun _ => [], World.ownsRow_lit w #[] 0 hb (Nat.zero_le _) (by simp), fun i h => by simp at h, by simp [flat], by simp [flat], by simp [Value.ownBlock], fun b hb => by simp [flat] at hb⟩

theorem Bl.mono {top' : Nat} (h : Bl E e base top w v ys) (ht : top ≤ top') : Bl E e base top' w v ys :=
 let ⟨L, fps, h1, h2, h3, h4, h5, h6⟩ := h
 ⟨L, fps, h1, h2, h3, fun b hb => ⟨(h4 b hb).1, Nat.lt_of_lt_of_le (h4 b hb).2.1 ht, (h4 b hb).2.2⟩, fun g hg => Nat.lt_of_lt_of_le (h5 g hg) ht, h6⟩

/-- all its blocks are as they were -/
theorem Bl.sameB (h : Bl E e base top w v ys) (hs : ∀ k, base ≤ k → k < top → w'.heap[k]? = w.heap[k]?) : Bl E e base top w' v ys := by
 obtain ⟨L, fps, h1, h2, h3, h4, h5, h6⟩ := h
 have hS : Same (flat fps ys.length) w w' := fun k hk => hs k (h4 k hk).1 (h4 k hk).2.1
 refine ⟨L, fps, ⟨h1.1, ?_⟩, fun i hi => ?_, h3, h4, h5, h6.same hS⟩
 ·rcases h1.2 with h | ⟨g, cap, cur, rfl, hg, hh, r⟩
  ·exact .inl h
  ·exact .inr ⟨g, cap, cur, rfl, hg, by rw [hs g hg (h5 g rfl)]; exact hh, r⟩
 ·obtain ⟨cs, h7, h8⟩ := h2 i hi
  exact ⟨cs, E.same h7 (fun k hk => hS k (List.mem_flatMap.2 ⟨i, by simpa using hi, hk⟩)), h8⟩
theorem Bl.below {B : Nat} (h : Bl E e base top w v ys) (hb : Below B w w') (ht : top ≤ B) : Bl E e base top w' v ys :=
 h.sameB (fun k _ hk => hb.block k (Nat.lt_of_lt_of_le hk ht))

theorem Bl.fr (h : Bl E e base top w v ys) (hl : ys.length ≤ capMax) : (Ty.slice E).Fr base w [v] ys := by
 obtain ⟨L, fps, h1, h2, h3, h4, h5, h6⟩ := h
 rcases h1.2 with ⟨rfl, h0⟩ | ⟨g, cap, cur, rfl, hg, hh, hn, hc, hcs, hL⟩
 ·obtain rfl : ys = [] := List.eq_nil_of_length_eq_zero h0
  exact fr_nil
 ·rcases Nat.eq_zero_or_pos ys.length with h0 | h0
  ·rw [h0]
   obtain rfl : ys = [] := List.eq_nil_of_length_eq_zero h0
   exact fr_nil
  ·have hgf : w.frozen? ⟨g, 0, none⟩ = false := by simp [World.frozen?, hh]
   refine ⟨g :: flat fps ys.length, ⟨some ⟨g, 0, none⟩, cap, rfl, hn, hl, .inr ⟨h0, g, 0, fps, rfl, lt_of_block hh, rfl, fun i hi => ?_⟩⟩, List.nodup_cons.2 ⟨fun hm => (h4 g hm).2.2 rfl, h3⟩, ?_, ?_⟩
   ·obtain ⟨cs, h7, h8⟩ := h2 i hi
    refine ⟨cs, h7, fun j hj => ?_⟩
    have h9 := h8 j hj
    rw [Nat.zero_add]
    have hlt : i * E.sz + j < ys.length * E.sz := by
     have := E.len h7
     have h10 : (i + 1) * E.sz ≤ ys.length * E.sz := Nat.mul_le_mul_right _ hi
     rw [Nat.add_mul] at h10
     omega
    rw [World.ownsRow.cellAt h1 _ hlt, h9]
   ·intro b hb
    rcases List.mem_cons.1 hb with rfl | hb
    ·exact hg
    ·exact (h4 b hb).1
   ·intro b hb o
    rcases List.mem_cons.1 hb with rfl | hb
    ·exact World.ownsRow.frozenAt h1 o
    ·exact h6 b hb o
end

/-- what an append asks of the program's table -/
def ElT (P : Program) (t e sz bytes : Nat) : Prop := ∃ i z, P.underlying t = some (.slice e) ∧ P.info? e = some i ∧ i.zero = some z ∧ i.size = sz ∧ i.bytes = bytes ∧ z.cells.size = sz ∧ 0 < sz
theorem ElT.mk {P : Program} {t e sz bytes : Nat} {z : Value} (ht : P.underlying t = some (.slice e)) (h : (P.info? e).map (fun i => (i.zero, i.size, i.bytes)) = some (some z, sz, bytes)) (hz : z.cells.size = sz) (hp : 0 < sz) : ElT P t e sz bytes :=
 let ⟨i, h1, h2, h3, h4⟩ := info_parts h; ⟨i, z, ht, h1, h2, h3, h4, hz, hp⟩

theorem run_push_block {P : Program} (w : World) (base t ty e : Nat) {sz bytes : Nat} (hT : ElT P t e sz bytes) (v : Value) (n : Nat) (xs : List Value) (hown : w.ownsRow base e sz v n xs)
  (a : Addr) (m c : Nat) (news : List Value) (hl : news.length = m * sz) (hnews : ∀ j u, news[j]? = some u → w.cell? (a.add j) = some u) (h1 : ∀ u ∈ news, u.oneCell' = true)
  (h63 : n + m ≤ maxLen) (hbytes : (n + m) * bytes ≤ 140737488355328) (hm : 0 < m) (v' : Value) (w' : World)
  (hr : (Builtin.append_ #[t, t] ty #[v, .slice (some a) m c]).run P w = .ok v' w') : v'.ownBlock = v.ownBlock ∨ v'.ownBlock = some w.heap.size := by
 obtain ⟨i, z, ht, hi, hz, rfl, rfl, hzs, hp⟩ := hT
 have hsmall : n + m ≤ 9223372036854775807 := by simp only [maxLen] at h63; omega
 rcases hown.2 with ⟨rfl, rfl⟩ | ⟨g, cap, cur, rfl, hbg, hg, hnc, hcm, hcs, htake⟩
 ·rw [run_append_nil (P := P) w t ty e i z ht hi hz a m c news hl hnews hm (by omega) (by have hb := hbytes; simp only [Nat.zero_add] at hb; omega)] at hr
  simp only [Result.ok.injEq] at hr
  rw [← hr.1]
  exact .inr rfl
 ·by_cases hroom : n + m ≤ cap
  ·have hfit : n * i.size + news.length ≤ cur.size := by rw [hl, hcs, ← Nat.add_mul]; exact Nat.mul_le_mul_right _ hroom
   rw [run_append_room (P := P) w t ty e i ht hi g n cap cur hg a m c news hl hnews h1 hroom hfit] at hr
   simp only [Result.ok.injEq] at hr
   rw [← hr.1]
   exact .inl rfl
  ·have holds : ∀ j u, xs[j]? = some u → w.cell? ((⟨g, 0, none⟩ : Addr).add j) = some u := hown.cells (g := g) rfl
   rw [run_append_grow (P := P) w t ty e i z ht hi hz ⟨g, 0, none⟩ n cap xs hown.1 holds a m c news hl hnews (by omega) (by omega) (growslice_fits (by omega) hbytes)] at hr
   simp only [Result.ok.injEq] at hr
   rw [← hr.1]
   exact .inr rfl
theorem el_add {α : Type} {E : Ty α} {w : World} {L : List Value} {ys : List α} {fps : Nat → List Nat} {y : α} {cs : List Value} {fp : List Nat} (h : els E w L ys fps) (hL : L.length = ys.length * E.sz) (hy : E.rd w cs y fp) :
  els E w (L ++ cs) (ys ++ [y]) (fun i => if i = ys.length then fp else fps i) := by
 intro i hi
 have hlen := E.len hy
 by_cases h0 : i = ys.length
 ·subst h0
  refine ⟨cs, by simpa using hy, fun j hj => ?_⟩
  rw [List.getElem?_append_right (by rw [hL]; omega), hL, Nat.add_sub_cancel_left]
  exact List.getElem?_eq_getElem hj
 ·have hi' : i < ys.length := by simp at hi; omega
  obtain ⟨cs', h7, h8⟩ := h i hi'
  refine ⟨cs', by simpa [h0, List.getElem_append_left hi'] using h7, fun j hj => ?_⟩
  rw [List.getElem?_append_left]
  ·exact h8 j hj
  ·have := E.len h7
   have h10 : (i + 1) * E.sz ≤ ys.length * E.sz := Nat.mul_le_mul_right _ hi'
   rw [Nat.add_mul] at h10
   omega
theorem flat_add {n : Nat} {fp : List Nat} {fps : Nat → List Nat} : flat (fun i => if i = n then fp else fps i) (n + 1) = flat fps n ++ fp := by
 unfold flat
 rw [List.range_succ, List.flatMap_append]
 congr 1
 ·refine congrArg List.flatten (List.map_congr_left fun i hi => ?_)
  simp at hi
  rw [if_neg (by omega)]
 ·simp

theorem wpList_push {P : Program} {α : Type} {E : Ty α} (w : World) {ops : Array Oper} {rest : List Oper} {o : Oper} {a : Act} {Q : Exit → Act → World → Prop} (hgd : o.guard = none) (s x : Operand) (t e : TypeId) {bytes : Nat}
  (ho : o.op = .call { callee := .builtin .append, args := #[s, x], argTypes := #[t, t] }) (hT : ElT P t e E.sz bytes)
  {base top : Nat} {v : Value} {ys : List α} (hs : a.eval s = v) (hB : Bl E e base top w v ys)
  {ad : Addr} {c : Nat} {cs : List Value} {y : α} (hx : a.eval x = .slice (some ad) 1 c) (hnews : ∀ j u, cs[j]? = some u → w.cell? (ad.add j) = some u) (hy : E.Fr top w cs y)
  (hlen : ys.length ≤ 1000000000) (hby : bytes ≤ 100000) (hbt : base ≤ top) (htop : top ≤ w.heap.size)
  (h : ∀ v' w', Bl E e base w'.heap.size w' v' (ys ++ [y]) → w.grownBy w' v.ownBlock → (v'.ownBlock = v.ownBlock ∨ v'.ownBlock = some w.heap.size) → wpList P ops Q rest (a.put o.dst v') w') : wpList P ops Q (o :: rest) a w := by
 obtain ⟨L, fps, g1, g2, g3, g4, g5, g6⟩ := hB
 obtain ⟨fp, k1, k2, k3, k4⟩ := hy
 obtain ⟨i, z, ht, hi, hz, hsz, hbt', hzs, hp⟩ := id hT
 have hcl := E.len k1
 have hlen' : (ys.length + 1) * bytes ≤ 140737488355328 := Nat.le_trans (Nat.mul_le_mul (show ys.length + 1 ≤ 1000000001 by omega) hby) (by decide)
 have hbase : base ≤ w.heap.size := Nat.le_trans hbt htop
 refine wpList_plain hgd fun K hK => ?_
 obtain ⟨v', w', hr, h2, h3, h4⟩ := run_append_own (P := P) w base t o.type e i z E.sz bytes ht hi hz hsz hbt' hzs hp v ys.length L g1 ad 1 c cs (by omega) hnews (E.one k1) (by unfold maxLen; omega) hlen' hbase
 have hblk := run_push_block w base t o.type e hT v ys.length L g1 ad 1 c cs (by omega) hnews (E.one k1) (by unfold maxLen; omega) hlen' (by omega) v' w' hr
 have hS : ∀ k, v.ownBlock ≠ some k → k < w.heap.size → w'.heap[k]? = w.heap[k]? := fun k hk hlt => h3.block k hlt (fun he => hk he.symm)
 have hlt1 : ∀ b ∈ flat fps ys.length, b < w.heap.size := fun b hb => Nat.lt_of_lt_of_le (g4 b hb).2.1 htop
 have hlt2 : ∀ b ∈ fp, b < w.heap.size := E.lt k1
 have hS1 : Same (flat fps ys.length) w w' := fun k hk => hS k (g4 k hk).2.2 (hlt1 k hk)
 have hne : ∀ b ∈ fp, v.ownBlock ≠ some b := fun b hb he => by have := g5 b he; have := k3 b hb; omega
 have hS2 : Same fp w w' := fun k hk => hS k (hne k hk) (hlt2 k hk)
 have hBl : Bl E e base w'.heap.size w' v' (ys ++ [y]) := by
  refine ⟨L ++ cs, fun i => if i = ys.length then fp else fps i, by simpa using h2, el_add (fun i hi => ?_) g1.1 (E.same k1 hS2), ?_, ?_, ?_, ?_⟩
  ·obtain ⟨cs', h7, h8⟩ := g2 i hi
   exact ⟨cs', E.same h7 (fun k hk => hS1 k (List.mem_flatMap.2 ⟨i, by simpa using hi, hk⟩)), h8⟩
  ·rw [List.length_append, List.length_singleton, flat_add]
   exact List.nodup_append.2 ⟨g3, k2, fun a ha b hb he => by subst he; have := (g4 a ha).2.1; have := k3 a hb; omega⟩
  ·rw [List.length_append, List.length_singleton, flat_add]
   intro b hb
   have hsz' := h3.size
   rcases List.mem_append.1 hb with hb | hb
   ·refine ⟨(g4 b hb).1, by have := hlt1 b hb; omega, ?_⟩
    rcases hblk with e1 | e1 <;> rw [e1]
    ·exact (g4 b hb).2.2
    ·intro he; have := hlt1 b hb; simp at he; omega
   ·refine ⟨by have := k3 b hb; omega, by have := hlt2 b hb; omega, ?_⟩
    rcases hblk with e1 | e1 <;> rw [e1]
    ·exact hne b hb
    ·intro he; have := hlt2 b hb; simp at he; omega
  ·intro g hg
   exact (h2.lt g hg).2
  ·rw [List.length_append, List.length_singleton, flat_add]
   intro b hb
   rcases List.mem_append.1 hb with hb | hb
   ·exact g6.same hS1 b hb
   ·exact k4.same hS2 b hb
 unfold Oper.wp execOp
 simp only [ho, resolve, invoke, builtin, Sem.run_bind, Sem.run_pure, Result.andThen_ok, List.map_toArray, List.map_cons, List.map_nil, hs, hx, hr]
 exact hK _ _ (h v' w' hBl h3 hblk)

/-- a row that make has laid, in block g: n elements, of which the first ones read as ys -/
def Ar {α : Type} (E : Ty α) (e base top : Nat) (w : World) (g n cap : Nat) (ys : List α) : Prop :=
 ∃ L fps, w.ownsRow base e E.sz (.slice (some ⟨g, 0, none⟩) n cap) n L ∧ els E w L ys fps ∧ ys.length ≤ n ∧ (flat fps ys.length).Nodup ∧ (∀ b ∈ flat fps ys.length, base ≤ b ∧ b < top ∧ g ≠ b) ∧ g < top ∧ base ≤ g ∧ Unf w (flat fps ys.length)

section
variable {α : Type} {E : Ty α} {e base top g n cap : Nat} {w w' : World} {ys : List α}
theorem Ar.sameB (h : Ar E e base top w g n cap ys) (hs : ∀ k, base ≤ k → k < top → w'.heap[k]? = w.heap[k]?) : Ar E e base top w' g n cap ys := by
 obtain ⟨L, fps, h1, h2, hn, h3, h4, h5, h5', h6⟩ := h
 have hS : Same (flat fps ys.length) w w' := fun k hk => hs k (h4 k hk).1 (h4 k hk).2.1
 refine ⟨L, fps, ⟨h1.1, ?_⟩, fun i hi => ?_, hn, h3, h4, h5, h5', h6.same hS⟩
 ·rcases h1.2 with h | ⟨g', cap, cur, hg', hg, hh, r⟩
  ·exact .inl h
  ·simp only [Value.slice.injEq, Option.some.injEq, Addr.mk.injEq, and_true, true_and] at hg'
   obtain ⟨rfl, rfl⟩ := hg'
   exact .inr ⟨g, _, cur, rfl, hg, by rw [hs g hg h5]; exact hh, r⟩
 ·obtain ⟨cs, h7, h8⟩ := h2 i hi
  exact ⟨cs, E.same h7 (fun k hk => hS k (List.mem_flatMap.2 ⟨i, by simpa using hi, hk⟩)), h8⟩
theorem Ar.below {B : Nat} (h : Ar E e base top w g n cap ys) (hb : Below B w w') (ht : top ≤ B) : Ar E e base top w' g n cap ys :=
 h.sameB (fun k _ hk => hb.block k (Nat.lt_of_lt_of_le hk ht))
theorem Ar.mono {top' : Nat} (h : Ar E e base top w g n cap ys) (ht : top ≤ top') : Ar E e base top' w g n cap ys :=
 let ⟨L, fps, h1, h2, hn, h3, h4, h5, h5', h6⟩ := h
 ⟨L, fps, h1, h2, hn, h3, fun b hb => ⟨(h4 b hb).1, Nat.lt_of_lt_of_le (h4 b hb).2.1 ht, (h4 b hb).2.2⟩, Nat.lt_of_lt_of_le h5 ht, h5', h6⟩
theorem Ar.fr (h : Ar E e base top w g n cap ys) (hl : ys.length ≤ capMax) (hn : n = ys.length) : (Ty.slice E).Fr base w [.slice (some ⟨g, 0, none⟩) n cap] ys := by
 obtain ⟨L, fps, h1, h2, _, h3, h4, h5, h5', h6⟩ := h
 subst hn
 refine Bl.fr (E := E) (e := e) (top := top) ⟨L, fps, h1, h2, h3, fun b hb => ⟨(h4 b hb).1, (h4 b hb).2.1, by simpa [Value.ownBlock] using (h4 b hb).2.2⟩, fun g' hg' => ?_, h6⟩ hl
 simp [Value.ownBlock] at hg'
 omega
theorem Ar.cell (h : Ar E e base top w g n cap ys) {j : Nat} (hj : j < n * E.sz) : ∃ u, w.cell? ⟨g, j, none⟩ = some u := by
 obtain ⟨L, fps, h1, _⟩ := h
 rw [World.ownsRow.cellAt h1 j hj]
 exact ⟨_, List.getElem?_eq_getElem (by rw [h1.1]; exact hj)⟩
theorem Ar.free (h : Ar E e base top w g n cap ys) (j : Nat) : w.frozen? ⟨g, j, none⟩ = false := by
 obtain ⟨L, fps, h1, _⟩ := h
 exact World.ownsRow.frozenAt h1 j
theorem Ar.lt (h : Ar E e base top w g n cap ys) : g < w.heap.size := by
 obtain ⟨L, fps, h1, _⟩ := h
 exact (h1.lt g rfl).2
end

/-- a call hands back new memory (one cell: a slice) that reads as x -/
def RetS {α : Type} (E : Ty α) (w : World) (x : α) (e : Ending) (w' : World) : Prop := ∃ u, e = .returned u ∧ E.Fr w.heap.size w' [u] x ∧ Below w.heap.size w w'
/-- .. a struct -/
def RetA {α : Type} (E : Ty α) (w : World) (x : α) (e : Ending) (w' : World) : Prop := ∃ cs : List Value, e = .returned (.agg cs.toArray) ∧ E.Fr w.heap.size w' cs x ∧ Below w.heap.size w w'
theorem Ty.Fr.set {α : Type} {E : Ty α} {base : Nat} {w : World} {cs : List Value} {x : α} {a : Addr} {u : Value} (h : E.Fr base w cs x) (ha : a.block < base) : E.Fr base (w.setCell a u) cs x :=
 let ⟨fp, h1, h2, h3, h4⟩ := h
 have hs : Same fp w (w.setCell a u) := fun k hk => Below.heap_setCell w a u k (fun e => by have := h3 k hk; omega)
 ⟨fp, E.same h1 hs, h2, h3, h4.same hs⟩
theorem fr_slice {α : Type} {E : Ty α} {base : Nat} {w : World} {u : Value} {x : List α} (h : (Ty.slice E).Fr base w [u] x) : ∃ ad cap, u = .slice ad x.length cap :=
 let ⟨_, ⟨ad, cap, hu, _⟩, _⟩ := h; ⟨ad, cap, by simpa using hu⟩
theorem fr_pair {α : Type} {E : Ty α} {base : Nat} {w : World} {cs : List Value} {x : Int × List α} (h : (Ty.cons (Ty.slice E)).Fr base w cs x) : ∃ ad cap, cs = [.int .i64 x.1, .slice ad x.2.length cap] :=
 let ⟨_, ⟨_, h1, _, ad, cap, h2, _⟩, _⟩ := h; ⟨ad, cap, by rw [h1, h2]⟩
theorem below_of_grown {w w' : World} (h : w.grownBy w' none) : Below w.heap.size w w' := (Below.refl _ _).grown h (Nat.le_refl _) (fun k hk => by cases hk)
theorem take_snoc {α : Type} {xs : List α} {k : Nat} (h : k < xs.length) : xs.take k ++ [xs[k]] = xs.take (k + 1) := (List.take_succ_eq_append_getElem h).symm
theorem take_len {α : Type} {xs : List α} {k : Nat} (h : k ≤ xs.length) : (xs.take k).length = k := List.length_take_of_le h
end Go.Proofs.YtmnjlhcbabhhlaaGreat
namespace Go.Proofs.YtmnjlhcbabhhlaaGreat
open Go.RowKit

abbrev VP := Value → World → Prop

def looseUpon (P : Program) (w : World) (Φ : VP) : Result Next → Prop
 | .ok (.value v) w' => Below w.heap.size w w' ∧ Φ v w'
 | .ok .skip w' => Below w.heap.size w w' ∧ Φ undef w'
 | .ok (.enter f args) w' => Below w.heap.size w w' ∧ Calls P f args w' fun e w'' => ∃ v, e = .returned v ∧ Below w'.heap.size w' w'' ∧ Φ v w''
 | _ => False

def writer : List Oper → List VP → Tmp → Option VP
 | o :: l, Φ :: Φs, t => if o.dst = some t then some Φ else writer l Φs t
 | _, _, _ => none

def slotP (l : List Oper) (Φs : List VP) (a : Act) (t : Tmp) : VP := match writer l Φs t with
 | some Φ => Φ
 | none => fun v _ => v = a.eval (.tmp t)

def readsB (o : Oper) (t : Tmp) : Bool := o.op.operands.toList.any fun x => match x with | .tmp s => s == t | _ => false

def JAt (P : Program) (l : List Oper) (Φs : List VP) (a : Act) (w : World) (o : Oper) (Φ : VP) : Prop :=
 ∀ (a' : Act) (w' : World), Below w.heap.size w w' → (∀ t, readsB o t = true → slotP l Φs a t (a'.eval (.tmp t)) w') → looseUpon P w' Φ ((execOp a'.eval o).run P w')

def JAll (P : Program) (l : List Oper) (Φs : List VP) (a : Act) (w : World) : List Oper → List VP → Prop
 | o :: r, Φ :: Φr => JAt P l Φs a w o Φ ∧ JAll P l Φs a w r Φr
 | [], [] => True
 | _, _ => False

def putAll (a : Act) : List Oper → List Value → Act
 | o :: l, v :: vs => putAll (a.put o.dst v) l vs
 | _, _ => a

def HAll (w : World) : List Oper → List VP → List Value → Prop
 | o :: l, Φ :: Φs, v :: vs => (o.dst.isSome = true → Φ v w) ∧ HAll w l Φs vs
 | [], [], [] => True
 | _, _, _ => False

/-- no guards; each edge leads back; every slot that an operation names and that another one writes is written by one that it waits for; no slot is written twice; all slots lie in the frame -/
def looseB (l : List Oper) (n : Nat) : Bool :=
 l.zipIdx.all fun (o, i) => o.guard.isNone && o.after.toList.all (fun e => !Region.binds .any e || decide (e.on < i)) && (match o.dst with | some d => decide (d < n) | none => true) &&
  l.zipIdx.all fun (q, j) => match q.dst with
   | none => true
   | some d => (o.op.operands.toList.all fun x => match x with
     | .tmp t => t != d || o.after.toList.any (fun e => e.on == j && Region.binds .any e)
     | _ => true) && (i == j || o.dst != some d)

theorem writer_some {l : List Oper} {Φs : List VP} {t : Tmp} {Φ : VP} (h : writer l Φs t = some Φ) : ∃ (j : Nat) (o : Oper), l[j]? = some o ∧ o.dst = some t ∧ Φs[j]? = some Φ := by
 induction l generalizing Φs with
 | nil => simp [writer] at h
 | cons o l ih =>
  cases Φs with
  | nil => simp [writer] at h
  | cons Φ' Φs =>
   simp only [writer] at h
   split at h
   ·rename_i hd
    exact ⟨0, o, rfl, hd, h⟩
   ·obtain ⟨j, o', h1, h2, h3⟩ := ih h
    exact ⟨j + 1, o', h1, h2, h3⟩
theorem writer_none {l : List Oper} {Φs : List VP} {t : Tmp} (hl : l.length = Φs.length) (h : writer l Φs t = none) : ∀ (j : Nat) (o : Oper), l[j]? = some o → o.dst ≠ some t := by
 induction l generalizing Φs with
 | nil => intro j o h; simp at h
 | cons q l ih =>
  cases Φs with
  | nil => simp at hl
  | cons Φ' Φs =>
   simp only [writer] at h
   split at h
   ·cases h
   ·rename_i hd
    intro j o ho
    match j with
    | 0 => simp at ho; subst ho; exact hd
    | j + 1 => exact ih (by simpa using hl) h j o (by simpa using ho)

theorem JAll_len {P : Program} {l : List Oper} {Φs : List VP} {a : Act} {w : World} : ∀ {r : List Oper} {Φr : List VP}, JAll P l Φs a w r Φr → r.length = Φr.length
 | [], [], _ => rfl
 | _ :: _, _ :: _, h => by simp [JAll_len h.2]
 | [], _ :: _, h => by cases h
 | _ :: _, [], h => by cases h
theorem JAll_get {P : Program} {l : List Oper} {Φs : List VP} {a : Act} {w : World} : ∀ {r : List Oper} {Φr : List VP}, JAll P l Φs a w r Φr → ∀ {i : Nat} {o : Oper} {Φ : VP}, r[i]? = some o → Φr[i]? = some Φ → JAt P l Φs a w o Φ
 | [], _, _, i, o, Φ, h, _ => by simp at h
 | q :: r, [], h, _, _, _, _, _ => by cases h
 | q :: r, Φ' :: Φr, hj, i, o, Φ, h, h' => by
  match i with
  | 0 => simp at h h'; subst h; subst h'; exact hj.1
  | i + 1 => exact JAll_get hj.2 (by simpa using h) (by simpa using h')

/-- where the region stands -/
structure LInv (l : List Oper) (Φs : List VP) (a : Act) (w : World) (listed : Array Bool) (a' : Act) (w' : World) : Prop where
 below : Below w.heap.size w w'
 size : listed.size = l.length
 defers : a'.defers = a.defers
 tsize : a'.tmps.size = a.tmps.size
 old : ∀ t, (∀ (j : Nat) (o : Oper), l[j]? = some o → o.dst = some t → listed.getD j false = false) → a'.tmps[t]? = a.tmps[t]?
 new : ∀ (j : Nat) (o : Oper) (Φ : VP), l[j]? = some o → Φs[j]? = some Φ → listed.getD j false = true → ∀ d, o.dst = some d → Φ (a'.eval (.tmp d)) w'

theorem looseB_spec {l : List Oper} {n : Nat} (h : looseB l n = true) {i : Nat} {o : Oper} (hi : l[i]? = some o) :
  o.guard = none ∧ (∀ e ∈ o.after, Region.binds .any e = true → e.on < i) ∧ (∀ d, o.dst = some d → d < n) ∧
  ∀ (j : Nat) (q : Oper) (d : Tmp), l[j]? = some q → q.dst = some d → (Operand.tmp d ∈ o.op.operands.toList → ∃ e ∈ o.after, e.on = j ∧ Region.binds .any e = true) ∧ (i ≠ j → o.dst ≠ some d) := by
 have hmem : (o, i) ∈ l.zipIdx := by
  rw [List.mem_zipIdx_iff_getElem?]
  exact hi
 have h1 := List.all_eq_true.1 h _ hmem
 simp only [Bool.and_eq_true] at h1
 obtain ⟨⟨⟨g1, g2⟩, g3⟩, g4⟩ := h1
 refine ⟨by simpa using g1, fun e he hbd => ?_, fun d hd => ?_, fun j q d hj hd => ?_⟩
 ·have := List.all_eq_true.1 g2 e (by simpa using he)
  simpa [hbd] using this
 ·rw [hd] at g3; simpa using g3
 ·have hmem2 : (q, j) ∈ l.zipIdx := by rw [List.mem_zipIdx_iff_getElem?]; exact hj
  have h2 := List.all_eq_true.1 g4 _ hmem2
  simp only [hd, Bool.and_eq_true] at h2
  refine ⟨fun ht => ?_, fun hne he => ?_⟩
  ·have h3 := List.all_eq_true.1 h2.1 _ ht
   simp only [bne_self_eq_false, Bool.false_or, List.any_eq_true, Bool.and_eq_true, beq_iff_eq] at h3
   obtain ⟨e, he, h4, h5⟩ := h3
   exact ⟨e, by simpa using he, h4, h5⟩
  ·have := h2.2
   rw [he] at this
   simp [hne] at this

theorem eval_put_self {a : Act} {d : Tmp} {v : Value} (h : d < a.tmps.size) : (a.put (some d) v).eval (.tmp d) = v := by
 simp [Act.put, Act.eval, h]
theorem eval_put_ne {a : Act} {o : Option Tmp} {d : Tmp} {v : Value} (h : o ≠ some d) : (a.put o v).eval (.tmp d) = a.eval (.tmp d) := by
 cases o with
 | none => rfl
 | some q => simp [Act.put, Act.eval, Array.getElem?_setIfInBounds_ne (show q ≠ d from fun e => h (by rw [e]))]
theorem put_size {a : Act} {o : Option Tmp} {v : Value} : (a.put o v).tmps.size = a.tmps.size := by cases o <;> simp [Act.put]
theorem put_defers {a : Act} {o : Option Tmp} {v : Value} : (a.put o v).defers = a.defers := by cases o <;> rfl
theorem put_other {a : Act} {o : Option Tmp} {v : Value} {t : Tmp} (h : o ≠ some t) : (a.put o v).tmps[t]? = a.tmps[t]? := by
 cases o with
 | none => rfl
 | some q => simp only [Act.put]; rw [Array.getElem?_setIfInBounds_ne (show q ≠ t from fun e => h (by rw [e]))]
theorem put_same {a : Act} {t : Tmp} {v : Value} (h : t < a.tmps.size) : (a.put (some t) v).tmps[t]? = some v := by
 simp only [Act.put]; rw [Array.getElem?_setIfInBounds_self_of_lt h]

theorem LInv.step {l : List Oper} {Φs : List VP} {a : Act} {w : World} {listed : Array Bool} {a' : Act} {w' w'' : World} (hB : looseB l a.tmps.size = true)
  (hst : ∀ Φ ∈ Φs, ∀ v w1 w2, Φ v w1 → Below w1.heap.size w1 w2 → Φ v w2) (h : LInv l Φs a w listed a' w') {i : Nat} {o : Oper} {Φ : VP} (hi : l[i]? = some o) (hΦ : Φs[i]? = some Φ) {v : Value} (hb : Below w'.heap.size w' w'') (hv : Φ v w'') :
  LInv l Φs a w (listed.setIfInBounds i true) (a'.put o.dst v) w'' := by
 have hlt : i < listed.size := by rw [h.size]; exact (List.getElem?_eq_some_iff.1 hi).1
 obtain ⟨_, _, hdn, hall⟩ := looseB_spec hB hi
 refine ⟨bthen h.below hb, by simpa using h.size, put_defers.trans h.defers, put_size.trans h.tsize, fun t ht => ?_, fun j q Ψ hj hΨ hl d hd => ?_⟩
 ·have hne : o.dst ≠ some t := fun e => by
   have := ht i o hi e
   rw [Array.getD_eq_getD_getElem?, Array.getElem?_setIfInBounds_self_of_lt hlt] at this
   cases this
  rw [put_other hne]
  refine h.old t fun j q hj hd => ?_
  have := ht j q hj hd
  by_cases e : i = j
  ·subst e; rw [Array.getD_eq_getD_getElem?, Array.getElem?_setIfInBounds_self_of_lt hlt] at this; cases this
  ·rwa [getD_set_ne false e] at this
 ·by_cases e : i = j
  ·subst e
   rw [hi] at hj
   cases hj
   rw [hΦ] at hΨ
   cases hΨ
   rw [hd, eval_put_self (by rw [h.tsize]; exact hdn d hd)]
   exact hv
  ·rw [getD_set_ne false e] at hl
   have hne := (hall j q d hj hd).2 e
   rw [eval_put_ne hne]
   exact hst Ψ (List.mem_of_getElem? hΨ) _ _ _ (h.new j q Ψ hj hΨ hl d hd) hb

theorem putAll_frame {l : List Oper} : ∀ {vs : List Value} {a : Act}, (putAll a l vs).tmps.size = a.tmps.size ∧ (putAll a l vs).defers = a.defers ∧
  ∀ t, (∀ o ∈ l, o.dst ≠ some t) → (putAll a l vs).tmps[t]? = a.tmps[t]? := by
 induction l with
 | nil => intro vs a; cases vs <;> exact ⟨rfl, rfl, fun _ _ => rfl⟩
 | cons o l ih =>
  intro vs a
  cases vs with
  | nil => exact ⟨rfl, rfl, fun _ _ => rfl⟩
  | cons v vs =>
   obtain ⟨h1, h2, h3⟩ := ih (vs := vs) (a := a.put o.dst v)
   exact ⟨h1.trans put_size, h2.trans put_defers, fun t ht => (h3 t fun q hq => ht q (List.mem_cons_of_mem _ hq)).trans (put_other (ht o (List.mem_cons_self ..)))⟩
theorem putAll_get {l : List Oper} : ∀ {a : Act} (f : Oper → Value) {j : Nat} {q : Oper} {d : Tmp}, l[j]? = some q → q.dst = some d → d < a.tmps.size → (∀ (i : Nat) (o : Oper), i ≠ j → l[i]? = some o → o.dst ≠ some d) →
  (putAll a l (l.map f)).tmps[d]? = some (f q) := by
 induction l with
 | nil => intro a f j q d h; simp at h
 | cons o l ih =>
  intro a f j q d hj hd hlt hne
  simp only [List.map_cons, putAll]
  match j with
  | 0 =>
   simp at hj
   subst hj
   rw [(putAll_frame (l := l) (vs := l.map f) (a := a.put o.dst (f o))).2.2 d (fun p hp => ?_), hd, put_same hlt]
   obtain ⟨i, hi⟩ := List.getElem?_of_mem hp
   exact hne (i + 1) p (by omega) (by simpa using hi)
  | j + 1 =>
   exact ih f (by simpa using hj) hd (by rw [put_size]; exact hlt) fun i p hi hp => hne (i + 1) p (by omega) (by simpa using hp)

theorem HAll_of {w : World} {f : Oper → Value} : ∀ {l : List Oper} {Φs : List VP}, l.length = Φs.length → (∀ (j : Nat) (o : Oper) (Φ : VP), l[j]? = some o → Φs[j]? = some Φ → o.dst.isSome = true → Φ (f o) w) → HAll w l Φs (l.map f)
 | [], [], _, _ => trivial
 | o :: l, Φ :: Φs, hl, h => ⟨h 0 o Φ rfl rfl, HAll_of (by simpa using hl) fun j q Ψ hj hΨ => h (j + 1) q Ψ (by simpa using hj) (by simpa using hΨ)⟩
 | [], _ :: _, hl, _ => by simp at hl
 | _ :: _, [], hl, _ => by simp at hl

theorem ready_nil {l : List Oper} {n : Nat} (hB : looseB l n = true) {listed : Array Bool} (hs : listed.size = l.length) (h : Region.ready .any l.toArray listed = []) : ∀ i, i < l.length → listed.getD i false = true := by
 intro i
 induction i using Nat.strongRecOn with
 | ind i ih =>
  intro hi
  cases hl : listed.getD i false
  ·exfalso
   have hm : i ∈ Region.ready .any l.toArray listed := by
    refine mem_ready.2 ⟨?_, l[i], by simp [hi], fun e he hbd => ?_⟩
    ·have : i < listed.size := by omega
     rw [Array.getD_eq_getD_getElem?, Array.getElem?_eq_getElem this] at hl ⊢
     exact hl
    ·have hlt := (looseB_spec hB (i := i) (o := l[i]) (by simp [hi])).2.1 e he hbd
     exact ih e.on hlt (by omega)
   rw [h] at hm
   cases hm
  ·rfl

theorem wpAny_loose {P : Program} {l : List Oper} {Φs : List VP} {a : Act} {w : World} {Q : Exit → Act → World → Prop} (hB : looseB l a.tmps.size = true)
  (hst : ∀ Φ ∈ Φs, ∀ v w1 w2, Φ v w1 → Below w1.heap.size w1 w2 → Φ v w2) (hJ : JAll P l Φs a w l Φs)
  (hQ : ∀ vs w', Below w.heap.size w w' → HAll w' l Φs vs → Q .normal (putAll a l vs) w') :
  ∀ (fuel : Nat) (listed : Array Bool) (a' : Act) (w' : World), (∃ s : List Nat, s.Nodup ∧ (∀ i ∈ s, i < l.length ∧ listed.getD i true = false) ∧ (∀ i, i < l.length → listed.getD i true = false → i ∈ s) ∧ s.length ≤ fuel) → LInv l Φs a w listed a' w' → wpAny P .any l.toArray Q fuel listed a' w' := by
 have hlen := JAll_len hJ
 have fin : ∀ (listed : Array Bool) (a' : Act) (w' : World), LInv l Φs a w listed a' w' → Region.ready .any l.toArray listed = [] → Q .normal a' w' := by
  intro listed a' w' hI hr
  have hall := ready_nil hB hI.size hr
  let f : Oper → Value := fun o => match o.dst with | some d => a'.eval (.tmp d) | none => undef
  have hH : HAll w' l Φs (l.map f) := HAll_of hlen fun j o Φ hj hΦ hs => by
   obtain ⟨d, hd⟩ := Option.isSome_iff_exists.1 hs
   have := hI.new j o Φ hj hΦ (hall j (List.getElem?_eq_some_iff.1 hj).1) d hd
   simpa [f, hd] using this
  have ha : a' = putAll a l (l.map f) := by
   obtain ⟨p1, p2, p3⟩ := putAll_frame (l := l) (vs := l.map f) (a := a)
   have e1 : a'.tmps = (putAll a l (l.map f)).tmps := by
    apply Array.ext_getElem?
    intro t
    by_cases ht : ∃ (j : Nat) (o : Oper), l[j]? = some o ∧ o.dst = some t
    ·obtain ⟨j, o, hj, hd⟩ := ht
     obtain ⟨_, _, hdn, _⟩ := looseB_spec hB hj
     have hlt := hdn t hd
     rw [putAll_get f hj hd hlt (fun i q hne hq => ((looseB_spec hB hq).2.2.2 j o t hj hd).2 hne)]
     have hlt' : t < a'.tmps.size := by rw [hI.tsize]; exact hlt
     simp [f, hd, Act.eval, Array.getElem?_eq_getElem hlt']
    ·rw [p3 t (fun o ho hd => ?_)]
     ·exact hI.old t fun j o hj hd => absurd ⟨j, o, hj, hd⟩ ht
     ·obtain ⟨j, hj⟩ := List.getElem?_of_mem ho
      exact ht ⟨j, o, hj, hd⟩
   have e2 : a'.defers = (putAll a l (l.map f)).defers := hI.defers.trans p2.symm
   cases a'
   cases hq : putAll a l (l.map f)
   rw [hq] at e1 e2
   simp only at e1 e2
   rw [e1, e2]
  rw [ha]
  exact hQ _ _ hI.below hH
 intro fuel
 induction fuel with
 | zero =>
  intro listed a' w' ⟨s, _, _, hs2, hs3⟩ hI
  have hr : Region.ready .any l.toArray listed = [] := by
   rw [List.eq_nil_iff_forall_not_mem]
   intro i hi
   obtain ⟨h1, o, ho, _⟩ := mem_ready.1 hi
   have hlt : i < l.length := by simpa using (Array.getElem?_eq_some_iff.1 ho).1
   have := hs2 i hlt h1
   obtain rfl : s = [] := List.eq_nil_of_length_eq_zero (by omega)
   cases this
  exact ⟨hr, fin _ _ _ hI hr⟩
 | succ fuel ih =>
  intro listed a' w' ⟨s, hs0, hs1, hs2, hs3⟩ hI
  refine ⟨fin _ _ _ hI, fun i hi => ?_⟩
  obtain ⟨h1, o, ho, hdeps⟩ := mem_ready.1 hi
  have hlt : i < l.length := by simpa using (Array.getElem?_eq_some_iff.1 ho).1
  have ho' : l[i]? = some o := by simpa using ho
  obtain ⟨Φ, hΦ⟩ : ∃ Φ, Φs[i]? = some Φ := ⟨_, List.getElem?_eq_getElem (by omega)⟩
  obtain ⟨hg, _, _, hall⟩ := looseB_spec hB ho'
  have hJi : JAt P l Φs a w o Φ := JAll_get hJ ho' hΦ
  have hj := hJi a' w' hI.below (fun t ht0 => by
   have ht : Operand.tmp t ∈ o.op.operands.toList := by
    unfold readsB at ht0
    obtain ⟨x, hx, he⟩ := List.any_eq_true.1 ht0
    cases x <;> simp at he
    subst he
    exact hx
   unfold slotP
   cases hwr : writer l Φs t with
   | some Ψ =>
    obtain ⟨j, q, hj, hd, hΨ⟩ := writer_some hwr
    obtain ⟨e, he, hon, hbind⟩ := (hall j q t hj hd).1 ht
    exact hI.new j q Ψ hj hΨ (by rw [← hon]; exact hdeps e he hbind) t hd
   | none =>
    have hno := writer_none hlen hwr
    have := hI.old t fun j q hj hd => absurd hd (hno j q hj)
    simp [Act.eval, this])
  have hnext : ∀ v w'', Below w'.heap.size w' w'' → Φ v w'' → wpAny P .any l.toArray Q fuel (listed.setIfInBounds i true) (a'.put o.dst v) w'' := by
   intro v w'' hb hv
   refine ih _ _ _ ⟨s.erase i, hs0.erase i, fun j hj => ?_, fun j hj hl => ?_, ?_⟩ (hI.step hB hst ho' hΦ hb hv)
   ·have hj' := List.mem_of_mem_erase hj
    have hne : j ≠ i := fun e => by subst e; exact (hs0.not_mem_erase) hj
    exact ⟨(hs1 j hj').1, by rw [getD_set_ne true (Ne.symm hne)]; exact (hs1 j hj').2⟩
   ·have hne : i ≠ j := fun e => by
     subst e
     have hsz : i < listed.size := by rw [hI.size]; exact hlt
     rw [Array.getD_eq_getD_getElem?, Array.getElem?_setIfInBounds_self_of_lt hsz] at hl
     cases hl
    rw [getD_set_ne true hne] at hl
    exact (List.mem_erase_of_ne (Ne.symm hne)).2 (hs2 j hj hl)
   ·rw [List.length_erase_of_mem (hs2 i hlt h1)]; omega
  unfold wpOp
  rw [ho]
  simp only [Region.wanted, hg, if_true]
  left
  unfold Oper.wp
  generalize (execOp a'.eval o).run P w' = r at hj
  cases r with
  | ok n w1 =>
   cases n with
   | value v => exact hnext v w1 hj.1 hj.2
   | skip => exact hnext undef w1 hj.1 hj.2
   | enter f args =>
    refine hj.2.mono fun e w2 ⟨v, he, hb2, hv⟩ => ?_
    subst he
    exact hnext v w2 (bthen hj.1 hb2) hv
   | _ => exact hj.elim
  | halt x w1 => exact hj.elim

/-- predicates that outlast new memory -/
def Stab (Φ : VP) : Prop := ∀ v w1 w2, Φ v w1 → Below w1.heap.size w1 w2 → Φ v w2
def SAll : List VP → Prop
 | Φ :: Φs => Stab Φ ∧ SAll Φs
 | [] => True
theorem SAll_mem : ∀ {Φs : List VP}, SAll Φs → ∀ Φ ∈ Φs, ∀ v w1 w2, Φ v w1 → Below w1.heap.size w1 w2 → Φ v w2
 | _ :: _, h, Φ, hm, v, w1, w2, h1, hb => by
  rcases List.mem_cons.1 hm with rfl | hm
  ·exact h.1 v w1 w2 h1 hb
  ·exact SAll_mem h.2 Φ hm v w1 w2 h1 hb
/-- the very value; a struct, a slice that reads so; new memory that reads so -/
def exV (c : Value) : VP := fun v _ => v = c
def rdS {α : Type} (E : Ty α) (x : α) : VP := fun v W => E.Rd W [v] x
theorem st_exV {c : Value} : Stab (exV c) := fun _ _ _ h _ => h
theorem st_rdS {α : Type} {E : Ty α} {x : α} : Stab (rdS E x) := fun _ _ _ h hb => Ty.Rd.below h hb
theorem ev {a : Act} {t : Tmp} {v : Value} (h : a.eval (.tmp t) = v) : a.tmps[t]?.getD undef = v := by simpa [Act.eval] using h
theorem HAll_cons {w : World} {o : Oper} {l : List Oper} {Φ : VP} {Φs : List VP} {vs : List Value} (h : HAll w (o :: l) (Φ :: Φs) vs) : ∃ v r, vs = v :: r ∧ (o.dst.isSome = true → Φ v w) ∧ HAll w l Φs r := by
 cases vs with
 | nil => cases h
 | cons v r => exact ⟨v, r, rfl, h.1, h.2⟩
theorem HAll_nil {w : World} {vs : List Value} (h : HAll w [] [] vs) : vs = [] := by
 cases vs with
 | nil => rfl
 | cons v r => cases h
theorem slot_w {l : List Oper} {Φs : List VP} {a a' : Act} {w' : World} {o : Oper} (hd : ∀ t, readsB o t = true → slotP l Φs a t (a'.eval (.tmp t)) w') (t : Tmp) (Φ : VP) (hr : readsB o t = true) (hw : writer l Φs t = some Φ) : Φ (a'.eval (.tmp t)) w' := by
 have h := hd t hr
 unfold slotP at h
 rw [hw] at h
 exact h
theorem slot_o {l : List Oper} {Φs : List VP} {a a' : Act} {w' : World} {o : Oper} (hd : ∀ t, readsB o t = true → slotP l Φs a t (a'.eval (.tmp t)) w') (t : Tmp) (hr : readsB o t = true) (hw : writer l Φs t = none) : a'.eval (.tmp t) = a.eval (.tmp t) := by
 have h := hd t hr
 unfold slotP at h
 rw [hw] at h
 exact h
theorem wp_region_loose {P : Program} {id : Nat} {l : List Oper} {a : Act} {w : World} {Q : Exit → Act → World → Prop} (Φs : List VP) (hm : P.follows .mixedOrders = true) (hB : looseB l a.tmps.size = true)
  (hst0 : SAll Φs) (hJ : JAll P l Φs a w l Φs)
  (hQ : ∀ vs w', Below w.heap.size w w' → HAll w' l Φs vs → Q .normal (putAll a l vs) w') : (Code.region id l.toArray true).wp P Q a w := by
 have hst := SAll_mem hst0
 refine wp_region_any hm (wpAny_loose hB hst hJ hQ _ _ _ _ ⟨List.range l.length, List.nodup_range, fun i hi => ⟨by simpa using hi, ?_⟩, fun i hi _ => by simpa using hi, by simp⟩ ⟨⟨rfl, rfl, rfl, Nat.le_refl _, fun _ _ => rfl⟩, by simp, rfl, rfl, fun _ _ => rfl, fun j o Φ hj _ hl => ?_⟩)
 ·simp at hi
  simp [hi]
 ·have hjl := (List.getElem?_eq_some_iff.1 hj).1
  simp [hjl] at hl
end Go.Proofs.YtmnjlhcbabhhlaaGreat
namespace Go.Proofs.YtmnjlhcbabhhlaaGreat
open Go.RowKit

/-- all blocks but some are as before -/
structure TchF (fp : List Nat) (w w' : World) : Prop where
 os : w'.os = w.os
 tape : w'.tape = w.tape
 output : w'.output = w.output
 size : w.heap.size ≤ w'.heap.size
 block : ∀ k, k < w.heap.size → k ∉ fp → w'.heap[k]? = w.heap[k]?
theorem TchF.refl (fp : List Nat) (w : World) : TchF fp w w := ⟨rfl, rfl, rfl, Nat.le_refl _, fun _ _ _ => rfl⟩
theorem TchF.trans {fp : List Nat} {w w' w'' : World} (h : TchF fp w w') (k : TchF fp w' w'') : TchF fp w w'' :=
 ⟨k.os.trans h.os, k.tape.trans h.tape, k.output.trans h.output, Nat.le_trans h.size k.size, fun i hi hb => (k.block i (Nat.lt_of_lt_of_le hi h.size) hb).trans (h.block i hi hb)⟩
theorem TchF.mono {fp fp' : List Nat} {w w' : World} (h : TchF fp w w') (hs : ∀ k ∈ fp, k ∈ fp') : TchF fp' w w' := ⟨h.os, h.tape, h.output, h.size, fun k hk hn => h.block k hk fun hm => hn (hs k hm)⟩
theorem Below.tchF {w w' : World} (h : Below w.heap.size w w') (fp : List Nat) : TchF fp w w' := ⟨h.os, h.tape, h.output, h.size, fun k hk _ => h.block k hk⟩
theorem TchF.setCell {fp : List Nat} {b : Nat} (hb : b ∈ fp) (o : Nat) (w : World) (u : Value) : TchF fp w (w.setCell ⟨b, o, none⟩ u) :=
 ⟨rfl, rfl, rfl, by simp [World.setCell], fun k _ hk => Below.heap_setCell _ _ _ _ (fun e => hk (by rw [e]; exact hb))⟩
theorem TchF.same {fp g : List Nat} {w w' : World} (h : TchF fp w w') (hg : ∀ k ∈ g, k < w.heap.size ∧ k ∉ fp) : Same g w w' := fun k hk => h.block k (hg k hk).1 (hg k hk).2
theorem TchF.cell {fp : List Nat} {w w' : World} (h : TchF fp w w') {b o : Nat} (hb : b < w.heap.size) (hn : b ∉ fp) : w'.cell? ⟨b, o, none⟩ = w.cell? ⟨b, o, none⟩ := World.cell?_of_block (w := w) (h.block b hb hn)
theorem TchF.frozen {fp : List Nat} {w w' : World} (h : TchF fp w w') {b o : Nat} (hb : b < w.heap.size) (hn : b ∉ fp) : w'.frozen? ⟨b, o, none⟩ = w.frozen? ⟨b, o, none⟩ := World.frozen?_of_block (w := w) (h.block b hb hn)

section
variable {α : Type} {f : Int → α → α} {c : α → Int} {k : Int} {xs : List α} {i : Nat}
end
/-! one element of a row -/
theorem nodup_flat {b n i : Nat} {fps : Nat → List Nat} (h : (b :: (List.range n).flatMap fps).Nodup) (hi : i < n) :
  (fps i).Nodup ∧ b ∉ fps i ∧ ∀ j, j < n → j ≠ i → ∀ k ∈ fps j, k ∉ fps i := by
 rw [List.nodup_cons] at h
 obtain ⟨h1, h2⟩ := h
 have h3 := List.pairwise_flatMap.1 h2
 refine ⟨h3.1 i (by simpa using hi), fun hb => h1 (List.mem_flatMap.2 ⟨i, by simpa using hi, hb⟩), fun j hj hne k hk hk' => ?_⟩
 have h4 := h3.2
 rw [List.pairwise_iff_getElem] at h4
 rcases Nat.lt_or_ge j i with hlt | hge
 ·have := h4 j i (by simpa using hj) (by simpa using hi) hlt k (by simpa using hk) k (by simpa using hk')
  exact this rfl
 ·have := h4 i j (by simpa using hi) (by simpa using hj) (by omega) k (by simpa using hk') k (by simpa using hk)
  exact this rfl

theorem rowRd.put {α : Type} {E : Ty α} {w w' : World} {b o : Nat} {xs : List α} {fps : Nat → List Nat} {i : Nat} {y : α} (h : rowRd E w b o xs fps) (_hi : i < xs.length)
  (hother : ∀ j, j < xs.length → j ≠ i → Same (fps j) w w' ∧ ∀ q, q < E.sz → w'.cell? ⟨b, o + j * E.sz + q, none⟩ = w.cell? ⟨b, o + j * E.sz + q, none⟩)
  (hthis : ∃ cs, E.rd w' cs y (fps i) ∧ ∀ j (hj : j < cs.length), w'.cell? ⟨b, o + i * E.sz + j, none⟩ = some cs[j]) : rowRd E w' b o (xs.set i y) fps := by
 intro j hj
 by_cases e : i = j
 ·subst e
  simpa using hthis
 ·have hj' : j < xs.length := by simpa using hj
  obtain ⟨cs, h1, h2⟩ := h j hj'
  obtain ⟨h3, h4⟩ := hother j hj' (fun e' => e e'.symm)
  refine ⟨cs, by rw [List.getElem_set_ne e]; exact E.same h1 h3, fun q hq => ?_⟩
  rw [h4 q (by rw [← E.len h1]; exact hq)]
  exact h2 q hq

theorem sl_open {α : Type} {E : Ty α} {w : World} {v : Value} {xs : List α} {fp : List Nat} (h : (Ty.slice E).rd w [v] xs fp) {i : Nat} (hi : i < xs.length) :
  ∃ b o cap fps, v = .slice (some ⟨b, o, none⟩) xs.length cap ∧ b < w.heap.size ∧ fp = b :: (List.range xs.length).flatMap fps ∧ rowRd E w b o xs fps ∧
   ∀ w' ys, rowRd E w' b o ys fps → ys.length = xs.length → b < w'.heap.size → (Ty.slice E).rd w' [v] ys fp := by
 obtain ⟨ad, cap, hv, h1, h2, h3⟩ := h
 obtain rfl : v = _ := by simpa using hv
 rcases h3 with h3 | ⟨h3, b, o, fps, rfl, hb, rfl, h4⟩
 ·omega
 ·refine ⟨b, o, cap, fps, rfl, hb, rfl, h4, fun w' ys hr hl hb' => ⟨some ⟨b, o, none⟩, cap, by rw [hl], by omega, by omega, .inr ⟨by omega, b, o, fps, rfl, hb', by rw [hl], hr⟩⟩⟩

/-- a number of a row: its cell, and the row behind a write -/
theorem ints_mark {w : World} {v : Value} {xs : List Int} {fp : List Nat} (h : intsT.rd w [v] xs fp) (_hn : fp.Nodup) (hu : Unf w fp) {i : Nat} (hi : i < xs.length) :
  ∃ b o cap, v = .slice (some ⟨b, o, none⟩) xs.length cap ∧ b < w.heap.size ∧ w.cell? ⟨b, o + i, none⟩ = some (.int .i64 xs[i]) ∧ w.frozen? ⟨b, o + i, none⟩ = false ∧
   ∀ n, I64 n → intsT.rd (w.setCell ⟨b, o + i, none⟩ (.int .i64 n)) [v] (xs.set i n) fp ∧ Unf (w.setCell ⟨b, o + i, none⟩ (.int .i64 n)) fp ∧ TchF fp w (w.setCell ⟨b, o + i, none⟩ (.int .i64 n)) := by
 obtain ⟨b, o, cap, fps, hv, hb, rfl, hr, hc⟩ := sl_open h hi
 have hcell : w.cell? ⟨b, o + i, none⟩ = some (.int .i64 xs[i]) := by
  obtain ⟨cs, ⟨rfl, _, _⟩, h2⟩ := hr i hi
  simpa [Ty.int] using h2 0 (by simp)
 refine ⟨b, o, cap, hv, hb, hcell, hu b (List.mem_cons_self ..) _, fun n hn => ⟨hc _ _ (hr.put hi (fun j hj hne => ⟨?_, fun q hq => ?_⟩) ⟨[.int .i64 n], ⟨rfl, hn, ?_⟩, fun j hj => ?_⟩) (by simp) (by simpa [World.setCell] using hb), fun k hk q => ?_, TchF.setCell (List.mem_cons_self ..) _ _ _⟩⟩
 ·obtain ⟨cs, ⟨_, _, hf⟩, _⟩ := hr j hj
  rw [hf]; intro k hk; cases hk
 ·refine World.cell?_setCell_other _ _ _ _ (fun e => ?_)
  have : q = 0 := by simpa [Ty.int] using hq
  simp [Ty.int] at e
  omega
 ·obtain ⟨cs, ⟨_, _, hf⟩, _⟩ := hr i hi
  exact hf
 ·obtain rfl : j = 0 := by simpa using hj
  simpa [Ty.int] using World.cell?_setCell_same _ _ (.int .i64 n) hcell
 ·rw [World.frozen?_setCell]; exact hu k hk q

/-- a slice of a row of slices -/
theorem rows_mark {α : Type} {E : Ty α} {w : World} {v : Value} {xs : List (List α)} {fp : List Nat} (h : (Ty.slice (Ty.slice E)).rd w [v] xs fp) (hn : fp.Nodup) (hu : Unf w fp) {i : Nat} (hi : i < xs.length) :
  ∃ b o cap u f, v = .slice (some ⟨b, o, none⟩) xs.length cap ∧ b < w.heap.size ∧ w.cell? ⟨b, o + i, none⟩ = some u ∧ (Ty.slice E).rd w [u] xs[i] f ∧ f.Nodup ∧ Unf w f ∧
   ∀ w' y, TchF f w w' → (Ty.slice E).rd w' [u] y f → Unf w' f → (Ty.slice (Ty.slice E)).rd w' [v] (xs.set i y) fp ∧ Unf w' fp ∧ TchF fp w w' := by
 obtain ⟨b, o, cap, fps, hv, hb, rfl, hr, hc⟩ := sl_open h hi
 obtain ⟨n1, n2, n3⟩ := nodup_flat hn hi
 obtain ⟨cs, h1, h2⟩ := hr i hi
 obtain ⟨_, _, rfl, _⟩ := id h1
 have hcell := h2 0 (by simp)
 have hsub : ∀ k ∈ fps i, k ∈ b :: (List.range xs.length).flatMap fps := fun k hk => List.mem_cons_of_mem _ (List.mem_flatMap.2 ⟨i, by simpa using hi, hk⟩)
 refine ⟨b, o, cap, _, fps i, hv, hb, by simpa [Ty.slice] using hcell, h1, n1, fun k hk => hu k (hsub k hk), fun w' y ht hy hu' => ?_⟩
 have hbl : ∀ q, w'.cell? ⟨b, q, none⟩ = w.cell? ⟨b, q, none⟩ := fun q => ht.cell hb n2
 refine ⟨hc _ _ (hr.put hi (fun j hj hne => ⟨ht.same fun k hk => ⟨?_, n3 j hj hne k hk⟩, fun q _ => hbl _⟩) ⟨_, hy, fun j hj => ?_⟩) (by simp) (Nat.lt_of_lt_of_le hb ht.size), fun k hk q => ?_, ht.mono hsub⟩
 ·obtain ⟨cs', h3, _⟩ := hr j hj
  exact (Ty.slice E).lt h3 k hk
 ·rw [hbl]; exact h2 j hj
 ·by_cases hk' : k ∈ fps i
  ·exact hu' k hk' q
  ·rw [ht.frozen ((Ty.slice (Ty.slice E)).lt h k hk) hk']; exact hu k hk q

/-! memory between two numbers -/
/-- reads so in blocks from lo up to hi, each once, none frozen -/
def Ty.Fx {α : Type} (E : Ty α) (lo hi : Nat) (w : World) (cs : List Value) (x : α) : Prop := ∃ fp, E.rd w cs x fp ∧ fp.Nodup ∧ (∀ b ∈ fp, lo ≤ b ∧ b < hi) ∧ Unf w fp
theorem Ty.Fx.rd {α : Type} {E : Ty α} {lo hi : Nat} {w : World} {cs : List Value} {x : α} (h : E.Fx lo hi w cs x) : E.Rd w cs x := let ⟨fp, h, _⟩ := h; ⟨fp, h⟩
theorem Ty.Fr.fx {α : Type} {E : Ty α} {lo : Nat} {w : World} {cs : List Value} {x : α} (h : E.Fr lo w cs x) : E.Fx lo w.heap.size w cs x :=
 let ⟨fp, h1, h2, h3, h4⟩ := h; ⟨fp, h1, h2, fun b hb => ⟨h3 b hb, E.lt h1 b hb⟩, h4⟩
theorem Ty.Fx.below {α : Type} {E : Ty α} {lo hi : Nat} {w w' : World} {cs : List Value} {x : α} (h : E.Fx lo hi w cs x) (hb : Below w.heap.size w w') : E.Fx lo hi w' cs x :=
 let ⟨fp, h1, h2, h3, h4⟩ := h
 have hs : Same fp w w' := Same.below hb (E.lt h1)
 ⟨fp, E.same h1 hs, h2, h3, h4.same hs⟩
/-- all old blocks but those from lo up to hi are as before -/
structure Tch (lo hi : Nat) (w w' : World) : Prop where
 os : w'.os = w.os
 tape : w'.tape = w.tape
 output : w'.output = w.output
 size : w.heap.size ≤ w'.heap.size
 block : ∀ k, k < w.heap.size → (k < lo ∨ hi ≤ k) → w'.heap[k]? = w.heap[k]?
theorem TchF.tch {fp : List Nat} {lo hi : Nat} {w w' : World} (h : TchF fp w w') (hf : ∀ b ∈ fp, lo ≤ b ∧ b < hi) : Tch lo hi w w' :=
 ⟨h.os, h.tape, h.output, h.size, fun k hk hn => h.block k hk fun hm => by have := hf k hm; omega⟩
theorem Tch.cell {lo hi : Nat} {w w' : World} (h : Tch lo hi w w') {b o : Nat} (hb : b < w.heap.size) (hn : b < lo ∨ hi ≤ b) : w'.cell? ⟨b, o, none⟩ = w.cell? ⟨b, o, none⟩ := World.cell?_of_block (w := w) (h.block b hb hn)
theorem Ty.Fx.tch {α : Type} {E : Ty α} {lo hi lo' hi' : Nat} {w w' : World} {cs : List Value} {x : α} (h : E.Fx lo hi w cs x) (ht : Tch lo' hi' w w') (hd : hi ≤ lo' ∨ hi' ≤ lo) : E.Fx lo hi w' cs x :=
 let ⟨fp, h1, h2, h3, h4⟩ := h
 have hs : Same fp w w' := fun k hk => ht.block k (E.lt h1 k hk) (by have := h3 k hk; omega)
 ⟨fp, E.same h1 hs, h2, h3, h4.same hs⟩
/-- an append at a step of a region that draws its order -/
theorem step_push {P : Program} {K : Act → World → Prop} {Ee : Prop} {α : Type} {E : Ty α} (w : World) {ops : Array Oper} {o : Oper} {a : Act} {Q : Exit → Act → World → Prop} (hgd : o.guard = none) (s x : Operand) (t e : TypeId) {bytes : Nat}
  (ho : o.op = .call { callee := .builtin .append, args := #[s, x], argTypes := #[t, t] }) (hT : ElT P t e E.sz bytes)
  {base top : Nat} {v : Value} {ys : List α} (hs : a.eval s = v) (hB : Bl E e base top w v ys)
  {ad : Addr} {c : Nat} {cs : List Value} {y : α} (hx : a.eval x = .slice (some ad) 1 c) (hnews : ∀ j u, cs[j]? = some u → w.cell? (ad.add j) = some u) (hy : E.Fr top w cs y)
  (hlen : ys.length ≤ 1000000000) (hby : bytes ≤ 100000) (hbt : base ≤ top) (htop : top ≤ w.heap.size)
  (h : ∀ v' w', Bl E e base w'.heap.size w' v' (ys ++ [y]) → w.grownBy w' v.ownBlock → (v'.ownBlock = v.ownBlock ∨ v'.ownBlock = some w.heap.size) → K (a.put o.dst v') w') : if Region.wanted o (yielded ops a.tmps) = true then Oper.wp P o a w K Q else Ee := by
 rw [if_pos (by simp [Region.wanted, hgd])]
 obtain ⟨L, fps, g1, g2, g3, g4, g5, g6⟩ := hB
 obtain ⟨fp, k1, k2, k3, k4⟩ := hy
 obtain ⟨i, z, ht, hi, hz, hsz, hbt', hzs, hp⟩ := id hT
 have hcl := E.len k1
 have hlen' : (ys.length + 1) * bytes ≤ 140737488355328 := Nat.le_trans (Nat.mul_le_mul (show ys.length + 1 ≤ 1000000001 by omega) hby) (by decide)
 have hbase : base ≤ w.heap.size := Nat.le_trans hbt htop
 obtain ⟨v', w', hr, h2, h3, h4⟩ := run_append_own (P := P) w base t o.type e i z E.sz bytes ht hi hz hsz hbt' hzs hp v ys.length L g1 ad 1 c cs (by omega) hnews (E.one k1) (by unfold maxLen; omega) hlen' hbase
 have hblk := run_push_block w base t o.type e hT v ys.length L g1 ad 1 c cs (by omega) hnews (E.one k1) (by unfold maxLen; omega) hlen' (by omega) v' w' hr
 have hS : ∀ k, v.ownBlock ≠ some k → k < w.heap.size → w'.heap[k]? = w.heap[k]? := fun k hk hlt => h3.block k hlt (fun he => hk he.symm)
 have hlt1 : ∀ b ∈ flat fps ys.length, b < w.heap.size := fun b hb => Nat.lt_of_lt_of_le (g4 b hb).2.1 htop
 have hlt2 : ∀ b ∈ fp, b < w.heap.size := E.lt k1
 have hS1 : Same (flat fps ys.length) w w' := fun k hk => hS k (g4 k hk).2.2 (hlt1 k hk)
 have hne : ∀ b ∈ fp, v.ownBlock ≠ some b := fun b hb he => by have := g5 b he; have := k3 b hb; omega
 have hS2 : Same fp w w' := fun k hk => hS k (hne k hk) (hlt2 k hk)
 have hBl : Bl E e base w'.heap.size w' v' (ys ++ [y]) := by
  refine ⟨L ++ cs, fun i => if i = ys.length then fp else fps i, by simpa using h2, el_add (fun i hi => ?_) g1.1 (E.same k1 hS2), ?_, ?_, ?_, ?_⟩
  ·obtain ⟨cs', h7, h8⟩ := g2 i hi
   exact ⟨cs', E.same h7 (fun k hk => hS1 k (List.mem_flatMap.2 ⟨i, by simpa using hi, hk⟩)), h8⟩
  ·rw [List.length_append, List.length_singleton, flat_add]
   exact List.nodup_append.2 ⟨g3, k2, fun a ha b hb he => by subst he; have := (g4 a ha).2.1; have := k3 a hb; omega⟩
  ·rw [List.length_append, List.length_singleton, flat_add]
   intro b hb
   have hsz' := h3.size
   rcases List.mem_append.1 hb with hb | hb
   ·refine ⟨(g4 b hb).1, by have := hlt1 b hb; omega, ?_⟩
    rcases hblk with e1 | e1 <;> rw [e1]
    ·exact (g4 b hb).2.2
    ·intro he; have := hlt1 b hb; simp at he; omega
   ·refine ⟨by have := k3 b hb; omega, by have := hlt2 b hb; omega, ?_⟩
    rcases hblk with e1 | e1 <;> rw [e1]
    ·exact hne b hb
    ·intro he; have := hlt2 b hb; simp at he; omega
  ·intro g hg
   exact (h2.lt g hg).2
  ·rw [List.length_append, List.length_singleton, flat_add]
   intro b hb
   rcases List.mem_append.1 hb with hb | hb
   ·exact g6.same hS1 b hb
   ·exact k4.same hS2 b hb
 unfold Oper.wp execOp
 simp only [ho, resolve, invoke, builtin, Sem.run_bind, Sem.run_pure, Result.andThen_ok, List.map_toArray, List.map_cons, List.map_nil, hs, hx, hr]
 exact h v' w' hBl h3 hblk
end Go.Proofs.YtmnjlhcbabhhlaaGreat
namespace Go.Proofs.YtmnjlhcbabhhlaaGreat
open Go.RowKit
theorem run_load_zero {P : Program} (w : World) (a : Addr) : (loadCells a 0).run P w = .ok #[] w := by
 simp [loadCells, loadCellsFrom]
theorem run_append_zero {P : Program} (w : World) (base : Nat) (t ty e : TypeId) {sz bytes : Nat} (hT : ElT P t e sz bytes) (v : Value) (n : Nat) (xs : List Value) (hown : w.ownsRow base e sz v n xs) (ad : Option Addr) (c : Nat) :
  (Builtin.append_ #[t, t] ty #[v, .slice ad 0 c]).run P w = .ok v w := by
 obtain ⟨i, z, ht, hi, hz, rfl, rfl, hzs, hp⟩ := hT
 rcases hown.2 with ⟨rfl, rfl⟩ | ⟨g, cap, cur, rfl, _, _, hnc, _⟩
 ·cases ad <;> simp [Builtin.append_, run_underlying ht, sizeOf, typeInfo, hi, Builtin.lenOf, Builtin.firstCells, run_load_zero]
 ·cases ad <;> simp [Builtin.append_, run_underlying ht, sizeOf, typeInfo, hi, Builtin.lenOf, Builtin.firstCells, hnc, storeCells, run_load_zero]
theorem getD_slot {n i q sz : Nat} (h : i < n) (hq : q < sz) : i * sz + q < n * sz := by
 have h10 : (i + 1) * sz ≤ n * sz := Nat.mul_le_mul_right _ h
 rw [Nat.add_mul] at h10
 omega
theorem run_pushFx {P : Program} {α : Type} {E : Ty α} (w : World) (t ty e : TypeId) {bytes : Nat} (hT : ElT P t e E.sz bytes)
  {base top : Nat} {v : Value} {ys : List α} (hB : Bl E e base top w v ys) {lo : Nat} {u : Value} {xs : List α} {fpu : List Nat} (hu0 : (Ty.slice E).rd w [u] xs fpu) (hnd : fpu.Nodup) (hbs : ∀ k ∈ fpu, lo ≤ k ∧ (k < base ∨ top ≤ k)) (hun : Unf w fpu) (hlo : lo ≤ base)
  (hlen : ys.length + xs.length ≤ 1000000000) (hby : bytes ≤ 100000) (hbt : base ≤ top) (htop : top ≤ w.heap.size) :
  ∃ v' w', (Builtin.append_ #[t, t] ty #[v, u]).run P w = .ok v' w' ∧ Bl E e lo w'.heap.size w' v' (ys ++ xs) ∧ w.grownBy w' v.ownBlock ∧ (v'.ownBlock = v.ownBlock ∨ v'.ownBlock = some w.heap.size) := by
 obtain ⟨L, fps, g1, g2, g3, g4, g5, g6⟩ := hB
 obtain ⟨ad, cap, hv, k1, k2, k3⟩ := hu0
 have g7 : ∀ g, v.ownBlock = some g → base ≤ g := fun g hg => (g1.lt g hg).1
 have g1' : w.ownsRow lo e E.sz v ys.length L := by
  refine ⟨g1.1, ?_⟩
  rcases g1.2 with h | ⟨g', cap', cur, hg', hbg, hh, r⟩
  ·exact .inl h
  ·exact .inr ⟨g', cap', cur, hg', Nat.le_trans hlo hbg, hh, r⟩
 obtain rfl : u = _ := by simpa using hv
 rcases k3 with ⟨h0, rfl⟩ | ⟨h0, b, o, fpx, rfl, hb, rfl, hr⟩
 ·have hx : xs = [] := List.eq_nil_of_length_eq_zero h0
  subst hx
  exact ⟨v, w, run_append_zero w base t ty e hT v ys.length L g1 ad cap, by rw [List.append_nil]; exact ⟨L, fps, g1', g2, g3, fun b hb => ⟨Nat.le_trans hlo (g4 b hb).1, Nat.lt_of_lt_of_le (g4 b hb).2.1 htop, (g4 b hb).2.2⟩, fun g hg => Nat.lt_of_lt_of_le (g5 g hg) htop, g6⟩, ⟨rfl, rfl, rfl, Nat.le_refl _, fun _ _ _ => rfl⟩, .inl rfl⟩
 ·obtain ⟨i, z, ht, hi, hz, hsz, hbt', hzs, hp⟩ := id hT
  have hlen' : (ys.length + xs.length) * bytes ≤ 140737488355328 := Nat.le_trans (Nat.mul_le_mul hlen hby) (by decide)
  have hbase : base ≤ w.heap.size := Nat.le_trans hbt htop
  -- the cells of the row
  have hcell : ∀ j, j < xs.length * E.sz → ∃ u, w.cell? ⟨b, o + j, none⟩ = some u ∧ u.oneCell' = true := by
   intro j hj
   have hi' : j / E.sz < xs.length := (Nat.div_lt_iff_lt_mul hp).2 hj
   have hq : j % E.sz < E.sz := Nat.mod_lt _ hp
   obtain ⟨cs, h1, h2⟩ := hr (j / E.sz) hi'
   have hcl := E.len h1
   have := h2 (j % E.sz) (by omega)
   rw [show o + j / E.sz * E.sz + j % E.sz = o + j by rw [Nat.add_assoc, Nat.div_add_mod']] at this
   exact ⟨_, this, E.one h1 _ (List.getElem_mem _)⟩
  let news : List Value := (List.range (xs.length * E.sz)).map fun j => (w.cell? ⟨b, o + j, none⟩).getD undef
  have hnl : news.length = xs.length * E.sz := by simp [news]
  have hng : ∀ j (h : j < xs.length * E.sz) u, w.cell? ⟨b, o + j, none⟩ = some u → news[j]? = some u := by
   intro j h u hc
   simp only [news, List.getElem?_map, List.getElem?_range h, Option.map_some, hc, Option.getD_some]
  have hnews : ∀ (j : Nat) (u : Value), news[j]? = some u → w.cell? ((⟨b, o, none⟩ : Addr).add j) = some u := by
   intro j u hj
   have hjl : j < xs.length * E.sz := by
    rcases Nat.lt_or_ge j news.length with h | h
    ·omega
    ·rw [List.getElem?_eq_none h] at hj; cases hj
   obtain ⟨u', h1, _⟩ := hcell j hjl
   have h2 := hng j hjl u' h1
   rw [hj] at h2
   simp only [Option.some.injEq] at h2
   subst h2
   by_cases hj0 : j = 0
   ·subst hj0; simpa [Addr.add] using h1
   ·simpa [Addr.add, hj0] using h1
  have hone : ∀ u ∈ news, u.oneCell' = true := by
   intro u hu
   obtain ⟨j, hj, rfl⟩ := List.mem_map.1 hu
   obtain ⟨u', h1, h2⟩ := hcell j (by simpa using hj)
   rw [h1]; exact h2
  obtain ⟨v', w', hr', h2, h3, h4⟩ := run_append_own (P := P) w lo t ty e i z E.sz bytes ht hi hz hsz hbt' hzs hp v ys.length L g1' ⟨b, o, none⟩ xs.length cap news hnl hnews hone (by unfold maxLen; omega) hlen' (Nat.le_trans hlo hbase)
  have hblk := run_push_block w lo t ty e hT v ys.length L g1' ⟨b, o, none⟩ xs.length cap news hnl hnews hone (by unfold maxLen; omega) hlen' h0 v' w' hr'
  have hS : ∀ k, v.ownBlock ≠ some k → k < w.heap.size → w'.heap[k]? = w.heap[k]? := fun k hk hlt => h3.block k hlt (fun he => hk he.symm)
  have hlt1 : ∀ b ∈ flat fps ys.length, b < w.heap.size := fun b hb => Nat.lt_of_lt_of_le (g4 b hb).2.1 htop
  have hxlt : ∀ k ∈ flat fpx xs.length, k < w.heap.size ∧ lo ≤ k ∧ (k < base ∨ top ≤ k) := fun k hk => by
   obtain ⟨i', hi', hk'⟩ := List.mem_flatMap.1 hk
   obtain ⟨cs, h1, _⟩ := hr i' (by simpa using hi')
   exact ⟨E.lt h1 k hk', hbs k (List.mem_cons_of_mem _ hk)⟩
  have hne : ∀ k ∈ flat fpx xs.length, v.ownBlock ≠ some k := fun k hk he => by have := g5 k he; have := g7 k he; have := (hxlt k hk).2.2; omega
  have hS1 : Same (flat fps ys.length) w w' := fun k hk => hS k (g4 k hk).2.2 (hlt1 k hk)
  have hS2 : Same (flat fpx xs.length) w w' := fun k hk => hS k (hne k hk) (hxlt k hk).1
  have hndx : (flat fpx xs.length).Nodup := (List.nodup_cons.1 hnd).2
  have hLl : L.length = ys.length * E.sz := g1.1
  refine ⟨v', w', hr', ⟨L ++ news, fun i => if i < ys.length then fps i else fpx (i - ys.length), by simpa using h2, fun i hi => ?_, ?_⟩, h3, hblk⟩
  ·by_cases hil : i < ys.length
   ·obtain ⟨cs', h7, h8⟩ := g2 i hil
    refine ⟨cs', ?_, fun j hj => ?_⟩
    ·rw [List.getElem_append_left hil]
     simp only [if_pos hil]
     exact E.same h7 (fun k hk => hS1 k (List.mem_flatMap.2 ⟨i, by simpa using hil, hk⟩))
    ·have hcl := E.len h7
     rw [List.getElem?_append_left (by rw [hLl]; exact getD_slot hil (by omega))]
     exact h8 j hj
   ·have hi2 : i - ys.length < xs.length := by rw [List.length_append] at hi; omega
    obtain ⟨cs', h7, h8⟩ := hr (i - ys.length) hi2
    refine ⟨cs', ?_, fun j hj => ?_⟩
    ·rw [List.getElem_append_right (by omega)]
     simp only [if_neg hil]
     exact E.same h7 (fun k hk => hS2 k (List.mem_flatMap.2 ⟨_, by simpa using hi2, hk⟩))
    ·have hcl := E.len h7
     have hge : ys.length * E.sz ≤ i * E.sz := Nat.mul_le_mul_right _ (by omega)
     rw [List.getElem?_append_right (by omega), hLl]
     have he : i * E.sz + j - ys.length * E.sz = (i - ys.length) * E.sz + j := by rw [Nat.sub_mul]; omega
     rw [he]
     exact hng _ (getD_slot hi2 (by omega)) _ (by rw [← Nat.add_assoc]; exact h8 j hj)
  ·have hflat : flat (fun i => if i < ys.length then fps i else fpx (i - ys.length)) (ys ++ xs).length = flat fps ys.length ++ flat fpx xs.length := by
    rw [List.length_append]
    unfold flat
    rw [List.range_add, List.flatMap_append]
    congr 1
    ·refine congrArg List.flatten (List.map_congr_left fun i hi => ?_)
     simp at hi
     rw [if_pos hi]
    ·rw [List.flatMap_map]
     refine congrArg List.flatten (List.map_congr_left fun i hi => ?_)
     rw [if_neg (by omega), Nat.add_sub_cancel_left]
   rw [hflat]
   have hsz' := h3.size
   refine ⟨List.nodup_append.2 ⟨g3, hndx, fun a ha b hb he => by subst he; have := (g4 a ha).2.1; have := (g4 a ha).1; have := (hxlt a hb).2.2; omega⟩, fun k hk => ?_, fun g hg => (h2.lt g hg).2, fun k hk => ?_⟩
   ·rcases List.mem_append.1 hk with hk | hk
    ·refine ⟨Nat.le_trans hlo (g4 k hk).1, by have := hlt1 k hk; omega, ?_⟩
     rcases hblk with e1 | e1 <;> rw [e1]
     ·exact (g4 k hk).2.2
     ·intro he; have := hlt1 k hk; simp at he; omega
    ·refine ⟨(hxlt k hk).2.1, by have := (hxlt k hk).1; omega, ?_⟩
     rcases hblk with e1 | e1 <;> rw [e1]
     ·exact hne k hk
     ·intro he; have := (hxlt k hk).1; simp at he; omega
   ·rcases List.mem_append.1 hk with hk | hk
    ·exact g6.same hS1 k hk
    ·exact (Unf.same (fun b hb => hun b (List.mem_cons_of_mem _ hb)) hS2) k hk
end Go.Proofs.YtmnjlhcbabhhlaaGreat
namespace Go.Proofs.YtmnjlhcbabhhlaaGreat
open Go.RowKit
theorem fx_below {α : Type} {E : Ty α} {base : Nat} {w w' : World} {cs : List Value} {x : α} (h : E.Fr base w cs x) (hb : Below w.heap.size w w') : E.Fx 0 w.heap.size w' cs x :=
 let ⟨fp, h1, h2, _, h4⟩ := h
 have hs : Same fp w w' := Same.below hb (E.lt h1)
 ⟨fp, E.same h1 hs, h2, fun k hk => ⟨Nat.zero_le _, E.lt h1 k hk⟩, h4.same hs⟩
theorem wpList_pushOld {P : Program} {α : Type} {E : Ty α} (w : World) {ops : Array Oper} {rest : List Oper} {o : Oper} {a : Act} {Q : Exit → Act → World → Prop} (hgd : o.guard = none) (s x : Operand) (t e : TypeId) {bytes : Nat}
  (ho : o.op = .call { callee := .builtin .append, args := #[s, x], argTypes := #[t, t] }) (hT : ElT P t e E.sz bytes)
  {base top lo : Nat} {v : Value} {ys : List α} (hs : a.eval s = v) (hB : Bl E e base top w v ys)
  {u : Value} {xs : List α} (hx : a.eval x = u) (hy : (Ty.slice E).Fx lo base w [u] xs) (hlo : lo ≤ base)
  (hlen : ys.length + xs.length ≤ 1000000000) (hby : bytes ≤ 100000) (hbt : base ≤ top) (htop : top ≤ w.heap.size)
  (h : ∀ v' w', Bl E e lo w'.heap.size w' v' (ys ++ xs) → w.grownBy w' v.ownBlock → (v'.ownBlock = v.ownBlock ∨ v'.ownBlock = some w.heap.size) → wpList P ops Q rest (a.put o.dst v') w') : wpList P ops Q (o :: rest) a w := by
 refine wpList_plain hgd fun K hK => ?_
 obtain ⟨fp, k1, k2, k3, k4⟩ := hy
 obtain ⟨v', w', hr, h2, h3, h4⟩ := run_pushFx (P := P) w t o.type e hT hB k1 k2 (fun k hk => ⟨(k3 k hk).1, .inl (k3 k hk).2⟩) k4 hlo hlen hby hbt htop
 unfold Oper.wp execOp
 simp only [ho, resolve, invoke, builtin, Sem.run_bind, Sem.run_pure, Result.andThen_ok, List.map_toArray, List.map_cons, List.map_nil, hs, hx, hr]
 exact hK _ _ (h v' w' h2 h3 h4)
end Go.Proofs.YtmnjlhcbabhhlaaGreat
namespace Go.Proofs.YtmnjlhcbabhhlaaGreat
/-- a code, how many steps, what has been told -/
abbrev FR := Int × Nat × List (List Int)
section
variable {s : Nat} {okT : List Int → Bool} {fx : List Int} {yc : List (List Int) → Int} {m : Nat} {vals : List Int} {r : FR} {rec : List Int → FR → FR} {a : Nat}
section
variable {N d : Nat} {pre : List Int} {cur : Int}
end
end
end Go.Proofs.YtmnjlhcbabhhlaaGreat
namespace Go.Proofs.YtmnjlhcbabhhlaaGreat
open Go.RowKit
theorem l00In_any (a lo hi : Int) (w : World) : Calls Tryz.prog 42 #[.int .i64 a, .int .i64 lo, .int .i64 hi] w fun e w' => e = .returned (.bool (inB a lo hi)) ∧ w = w' := by
 go_enter Tryz.func42, Tryz.ntmps42
 go_wp2
 all_goals
  go_ret
  exact ⟨ret_bool (by first | rw [inB_le (by assumption)] | rw [inB_lt (by assumption)]), rfl⟩
theorem within_any (a lo hi : Int) (w : World) : Calls Tryz.prog 33 #[.int .i64 a, .int .i64 lo, .int .i64 hi] w fun e w' => e = .returned (.bool (inB a lo hi)) ∧ w = w' := by
 go_enter Tryz.func33, Tryz.ntmps33
 go_wp2
 all_goals
  go_ret
  exact ⟨ret_bool (by first | rw [inB_le (by assumption)] | rw [inB_lt (by assumption)]), rfl⟩
theorem l00Max_any (a b : Int) (w : World) : Calls Tryz.prog 100 #[.int .i64 a, .int .i64 b] w fun e w' => e = .returned (.int .i64 (max a b)) ∧ w = w' := by
 go_enter Tryz.func100, Tryz.ntmps100
 go_wp2
 all_goals
  go_ret
  exact ⟨ret_int (by omega), rfl⟩
theorem isVars_any (a : Int) (w : World) : Calls Tryz.prog 32 #[.int .i64 a] w fun e w' => e = .returned (.bool (inB a 1 10)) ∧ w = w' := by
 go_enter Tryz.func32, Tryz.ntmps32
 go_wp2_with (go_at_call 33; refine (within_any _ _ _ _).mono ?_; rintro e w' ⟨rfl, rfl⟩)
 go_ret
 exact ⟨rfl, rfl⟩
theorem isSize_any (a : Int) (w : World) : Calls Tryz.prog 74 #[.int .i64 a] w fun e w' => e = .returned (.bool (inB a 1 4)) ∧ w = w' := by
 go_enter Tryz.func74, Tryz.ntmps74
 go_wp2_with (go_at_call 33; refine (within_any _ _ _ _).mono ?_; rintro e w' ⟨rfl, rfl⟩)
 go_ret
 exact ⟨rfl, rfl⟩
theorem isArity_any (a : Int) (w : World) : Calls Tryz.prog 90 #[.int .i64 a] w fun e w' => e = .returned (.bool (inB a 1 4)) ∧ w = w' := by
 go_enter Tryz.func90, Tryz.ntmps90
 go_wp2_with (go_at_call 33; refine (within_any _ _ _ _).mono ?_; rintro e w' ⟨rfl, rfl⟩)
 go_ret
 exact ⟨rfl, rfl⟩
theorem l01Size_any (a : Int) (w : World) : Calls Tryz.prog 63 #[.int .i64 a] w fun e w' => e = .returned (.bool (inB a 1 4)) ∧ w = w' := by
 go_enter Tryz.func63, Tryz.ntmps63
 go_wp2_with (go_at_call 42; refine (l00In_any _ _ _ _).mono ?_; rintro e w' ⟨rfl, rfl⟩)
 go_ret
 exact ⟨rfl, rfl⟩
theorem l01Arity_any (a : Int) (w : World) : Calls Tryz.prog 64 #[.int .i64 a] w fun e w' => e = .returned (.bool (inB a 1 4)) ∧ w = w' := by
 go_enter Tryz.func64, Tryz.ntmps64
 go_wp2_with (go_at_call 42; refine (l00In_any _ _ _ _).mono ?_; rintro e w' ⟨rfl, rfl⟩)
 go_ret
 exact ⟨rfl, rfl⟩
theorem isValue_any (size a : Int) (w : World) (h0 : 0 ≤ size) (h1 : size ≤ 1000000000000) : Calls Tryz.prog 80 #[.int .i64 size, .int .i64 a] w fun e w' => e = .returned (.bool (inB a 0 (size - 1))) ∧ w = w' := by
 go_enter Tryz.func80, Tryz.ntmps80
 go_wp2_with (go_at_call 33; refine (within_any _ _ _ _).mono ?_; rintro e w' ⟨rfl, rfl⟩)
 go_ret
 exact ⟨rfl, rfl⟩
def pix (i j : Int) : Int := (max i j) * (max i j - 1) / 2 + min i j
theorem mul_bd (a : Int) (h : 0 ≤ a) (h' : a ≤ 100) : 0 ≤ a * (a - 1) ∧ a * (a - 1) ≤ 9900 := by
 rcases (show a = 0 ∨ 1 ≤ a by omega) with rfl | h1
 ·simp
 ·exact ⟨Int.mul_nonneg h (by omega), Int.le_trans (Int.mul_le_mul h' (show a - 1 ≤ 99 by omega) (by omega) (by omega)) (by omega)⟩
theorem pix_arith (m q : Int) (h0 : 0 ≤ m) (h1 : m ≤ 100) (h2 : 0 ≤ q) (h3 : q ≤ 100) : wrap64 (wrap64 ((wrap64 (m * (m - 1))).tdiv 2) + q) = m * (m - 1) / 2 + q := by
 have h := mul_bd m h0 h1
 generalize m * (m - 1) = p at *
 rw [IntWalk.wrap64_in p ⟨by omega, by omega⟩, Int.tdiv_eq_ediv_of_nonneg h.1, IntWalk.wrap64_in (p / 2) ⟨by omega, by omega⟩, IntWalk.wrap64_in _ ⟨by omega, by omega⟩]
theorem pairIndex_any (i j : Int) (w : World) (h0 : 0 ≤ i) (h1 : i ≤ 100) (h2 : 0 ≤ j) (h3 : j ≤ 100) : Calls Tryz.prog 34 #[.int .i64 i, .int .i64 j] w fun e w' => e = .returned (.int .i64 (pix i j)) ∧ w = w' := by
 go_enter Tryz.func34, Tryz.ntmps34
 go_wp2
 all_goals
  go_ret
  refine ⟨ret_int ?_, rfl⟩
  unfold pix
  rw [pix_arith _ _ (by omega) (by omega) (by omega) (by omega)]
  rcases Int.lt_trichotomy i j with h | rfl | h <;> simp only [Int.max_def, Int.min_def] <;> first | (exfalso; omega) | (simp only [Int.le_refl, if_true]; done) | (rw [if_pos (by omega), if_pos (by omega)]) | (rw [if_neg (by omega), if_neg (by omega)]) | (exfalso; omega)
theorem l05Index_any (i j : Int) (w : World) (h0 : 0 ≤ i) (h1 : i ≤ 100) (h2 : 0 ≤ j) (h3 : j ≤ 100) : Calls Tryz.prog 88 #[.int .i64 i, .int .i64 j] w fun e w' => e = .returned (.int .i64 (j * (j - 1) / 2 + i)) ∧ w = w' := by
 go_enter Tryz.func88, Tryz.ntmps88
 go_wp2
 go_ret
 exact ⟨ret_int (pix_arith _ _ h2 h3 h0 h1), rfl⟩
end Go.Proofs.YtmnjlhcbabhhlaaGreat
