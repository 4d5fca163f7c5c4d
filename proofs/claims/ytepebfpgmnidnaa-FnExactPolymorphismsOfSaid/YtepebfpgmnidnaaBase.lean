/-
  What a value reads as, in a world: numbers, slices, structs by value; which blocks hold it; that it stays while these blocks stay. No program is named here.
-/
import Derived.WalkKit
import Derived.WalkLawsBesides
import Derived.WalkSpells
import Derived.Deep.QuietTactic
import Derived.BigQuiet
import Derived.Lib.Hide
namespace Go.Proofs.Ytepebfpgmnidnaa
open Go.RowKit

def inB (a lo hi : Int) : Bool := decide (lo ≤ a) && decide (a ≤ hi)
theorem inB_lt {a lo hi : Int} (h : a < lo) : inB a lo hi = false := by simp [inB]; omega
theorem inB_gt {a lo hi : Int} (h : hi < a) : inB a lo hi = false := by simp [inB]; omega
theorem inB_le {a lo hi : Int} (h : lo ≤ a) : inB a lo hi = decide (a ≤ hi) := by simp [inB, h]
theorem inB_true {a lo hi : Int} : inB a lo hi = true ↔ lo ≤ a ∧ a ≤ hi := by simp [inB]
theorem inB_false {a lo hi : Int} : inB a lo hi = false ↔ ¬ (lo ≤ a ∧ a ≤ hi) := by rw [← Bool.not_eq_true, inB_true]
theorem ret_bool {a b : Bool} (h : a = b) : Ending.returned (.bool a) = .returned (.bool b) := by rw [h]
theorem ret_int {a b : Int} (h : a = b) : Ending.returned (.int .i64 a) = .returned (.int .i64 b) := by rw [h]

theorem ilt (a b : Int) : a < b ∨ b ≤ a := by omega
/-- equality as a test, behind a name -/
def eqB {α : Type} [DecidableEq α] (x y : α) : Bool := decide (x = y)
theorem eqB_len {α : Type} [DecidableEq α] {x y : List α} (h : x.length ≠ y.length) : eqB x y = false := decide_eq_false fun e => h (by rw [e])
theorem eqB_true {α : Type} [DecidableEq α] {x y : α} (h : x = y) : eqB x y = true := decide_eq_true h
theorem eqB_false {α : Type} [DecidableEq α] {x y : α} (h : x ≠ y) : eqB x y = false := decide_eq_false h
theorem eqB_iff {α : Type} [DecidableEq α] {x y : α} : eqB x y = true ↔ x = y := decide_eq_true_iff
theorem eqB_get {α : Type} [DecidableEq α] {x y : List α} {k : Nat} (h : k < x.length) (h' : k < y.length) (hne : x[k] ≠ y[k]) : eqB x y = false :=
  decide_eq_false fun e => by subst e; exact hne rfl
theorem eqB_fst {α β : Type} [DecidableEq α] [DecidableEq β] {x y : α × β} (h : x.1 ≠ y.1) : eqB x y = false := decide_eq_false fun e => h (by rw [e])
theorem eqB_snd {α β : Type} [DecidableEq α] [DecidableEq β] {x y : α × β} {b : Bool} (h : x.1 = y.1) (hb : eqB x.2 y.2 = b) : eqB x y = b := by
  rw [← hb]
  obtain ⟨x1, x2⟩ := x
  obtain ⟨y1, y2⟩ := y
  obtain rfl : x1 = y1 := h
  simp [eqB]
theorem take_eq_succ {α : Type} {x y : List α} {k : Nat} (h : k < x.length) (h' : k < y.length) (ht : x.take k = y.take k) (he : x[k] = y[k]) : x.take (k + 1) = y.take (k + 1) := by
  rw [List.take_succ_eq_append_getElem h, List.take_succ_eq_append_getElem h', ht, he]
/-- the world after some draws -/
def Quiet (w w' : World) : Prop := ∃ n, w' = w.drewN n
theorem Quiet.refl (w : World) : Quiet w w := ⟨0, rfl⟩
theorem Quiet.drewN (w : World) (n : Nat) : Quiet w (w.drewN n) := ⟨n, rfl⟩
theorem Quiet.then {w w' w'' : World} (h : Quiet w w') (h' : Quiet w' w'') : Quiet w w'' := by
  obtain ⟨n, rfl⟩ := h
  obtain ⟨m, rfl⟩ := h'
  exact ⟨n + m, World.drewN_drewN _ _ _⟩
theorem Quiet.below {w w' : World} (h : Quiet w w') : Below w.heap.size w w' := by
  obtain ⟨n, rfl⟩ := h
  exact ⟨rfl, rfl, rfl, Nat.le_refl _, fun _ _ => rfl⟩
/-- a number of 64 bits -/
def I64 (n : Int) : Prop := -9223372036854775808 ≤ n ∧ n ≤ 9223372036854775807
theorem I64.of {n : Int} (h : (Lit.int .i64 n).wf = true) : I64 n := by simpa [Lit.wf, IntKind.min, IntKind.max, IntKind.signed, IntKind.bits, I64] using h
theorem I64.small {n : Int} (h : -1000000000000000000 ≤ n) (h' : n ≤ 1000000000000000000) : I64 n := ⟨by omega, by omega⟩

/-- the size of a world's heap, behind a name -/
def Same (fp : List Nat) (w w' : World) : Prop := ∀ k ∈ fp, w'.heap[k]? = w.heap[k]?
theorem Same.below {B : Nat} {w w' : World} {fp : List Nat} (h : Below B w w') (hf : ∀ k ∈ fp, k < B) : Same fp w w' := fun k hk => h.block k (hf k hk)
theorem Same.refl (fp : List Nat) (w : World) : Same fp w w := fun _ _ => rfl
theorem Same.trans {fp : List Nat} {a b c : World} (h : Same fp a b) (h' : Same fp b c) : Same fp a c := fun k hk => (h' k hk).trans (h k hk)

theorem cell_lt {w : World} {b o : Nat} {v : Value} (h : w.cell? ⟨b, o, none⟩ = some v) : b < w.heap.size := by
  rcases Nat.lt_or_ge b w.heap.size with h' | h'
  · exact h'
  · simp [World.cell?, Array.getElem?_eq_none h'] at h

/-- a kind of datum: how many cells it takes, and what it is to read as one, through which blocks -/
structure Ty (α : Type) where
  sz : Nat
  rd : World → List Value → α → List Nat → Prop
  len : ∀ {w cs x fp}, rd w cs x fp → cs.length = sz
  same : ∀ {w w' cs x fp}, rd w cs x fp → Same fp w w' → rd w' cs x fp
  lt : ∀ {w cs x fp}, rd w cs x fp → ∀ k ∈ fp, k < w.heap.size
  one : ∀ {w cs x fp}, rd w cs x fp → ∀ u ∈ cs, u.oneCell' = true

def Ty.Rd {α : Type} (E : Ty α) (w : World) (cs : List Value) (x : α) : Prop := ∃ fp, E.rd w cs x fp
theorem Ty.Rd.below {α : Type} {E : Ty α} {w w' : World} {cs : List Value} {x : α} (h : E.Rd w cs x) (hb : Below w.heap.size w w') : E.Rd w' cs x :=
  let ⟨fp, h⟩ := h; ⟨fp, E.same h (Same.below hb (E.lt h))⟩
/-- read in blocks below B -/
def Ty.RdB {α : Type} (E : Ty α) (B : Nat) (w : World) (cs : List Value) (x : α) : Prop := ∃ fp, E.rd w cs x fp ∧ ∀ k ∈ fp, k < B
theorem Ty.RdB.rd {α : Type} {E : Ty α} {B : Nat} {w : World} {cs : List Value} {x : α} (h : E.RdB B w cs x) : E.Rd w cs x := let ⟨fp, h, _⟩ := h; ⟨fp, h⟩
theorem Ty.Rd.B {α : Type} {E : Ty α} {w : World} {cs : List Value} {x : α} (h : E.Rd w cs x) : E.RdB w.heap.size w cs x := let ⟨fp, h⟩ := h; ⟨fp, h, E.lt h⟩
theorem Ty.RdB.below {α : Type} {E : Ty α} {B B' : Nat} {w w' : World} {cs : List Value} {x : α} (h : E.RdB B w cs x) (hb : Below B' w w') (hB : B ≤ B') : E.RdB B w' cs x :=
  let ⟨fp, h, hf⟩ := h; ⟨fp, E.same h (fun k hk => hb.block k (Nat.lt_of_lt_of_le (hf k hk) hB)), hf⟩
theorem Ty.RdB.mono {α : Type} {E : Ty α} {B B' : Nat} {w : World} {cs : List Value} {x : α} (h : E.RdB B w cs x) (hB : B ≤ B') : E.RdB B' w cs x :=
  let ⟨fp, h, hf⟩ := h; ⟨fp, h, fun k hk => Nat.lt_of_lt_of_le (hf k hk) hB⟩

def Ty.int : Ty Int where
  sz := 1
  rd := fun _ cs n fp => cs = [.int .i64 n] ∧ I64 n ∧ fp = []
  len := by rintro _ _ _ _ ⟨rfl, _, _⟩; rfl
  same := fun h _ => h
  lt := by rintro _ _ _ _ ⟨rfl, _, rfl⟩ k hk; cases hk
  one := by rintro _ _ _ _ ⟨rfl, _, _⟩ u hu; simp at hu; subst hu; rfl

def Ty.bool : Ty Bool where
  sz := 1
  rd := fun _ cs n fp => cs = [.bool n] ∧ fp = []
  len := by rintro _ _ _ _ ⟨rfl, _⟩; rfl
  same := fun h _ => h
  lt := by rintro _ _ _ _ ⟨rfl, rfl⟩ k hk; cases hk
  one := by rintro _ _ _ _ ⟨rfl, _⟩ u hu; simp at hu; subst hu; rfl

/-- a bound on every slice's capacity -/
def capMax : Nat := 140737488351232

/-- the cells of a row of elements -/
def rowRd {α : Type} (E : Ty α) (w : World) (b o : Nat) (xs : List α) (fps : Nat → List Nat) : Prop :=
  ∀ i (h : i < xs.length), ∃ cs, E.rd w cs xs[i] (fps i) ∧ ∀ j (hj : j < cs.length), w.cell? ⟨b, o + i * E.sz + j, none⟩ = some cs[j]

def sliceRd {α : Type} (E : Ty α) (w : World) (cs : List Value) (xs : List α) (fp : List Nat) : Prop :=
  ∃ ad cap, cs = [.slice ad xs.length cap] ∧ xs.length ≤ cap ∧ xs.length ≤ capMax ∧
    ((xs.length = 0 ∧ fp = []) ∨ (0 < xs.length ∧ ∃ b o fps, ad = some ⟨b, o, none⟩ ∧ b < w.heap.size ∧ fp = b :: (List.range xs.length).flatMap fps ∧ rowRd E w b o xs fps))

theorem rowRd.same {α : Type} {E : Ty α} {w w' : World} {b o : Nat} {xs : List α} {fps : Nat → List Nat} (h : rowRd E w b o xs fps) (hs : Same (b :: (List.range xs.length).flatMap fps) w w') : rowRd E w' b o xs fps := by
  intro i hi
  obtain ⟨cs, h1, h2⟩ := h i hi
  refine ⟨cs, E.same h1 fun k hk => hs k (List.mem_cons_of_mem _ (List.mem_flatMap.2 ⟨i, by simpa using hi, hk⟩)), fun j hj => ?_⟩
  rw [← h2 j hj]
  exact World.cell?_of_block (hs b (List.mem_cons_self ..))

def Ty.slice {α : Type} (E : Ty α) : Ty (List α) where
  sz := 1
  rd := sliceRd E
  len := by rintro _ _ _ _ ⟨_, _, rfl, _⟩; rfl
  same := by
    rintro w w' _ xs fp ⟨ad, cap, rfl, h1, h2, h3⟩ hs
    refine ⟨ad, cap, rfl, h1, h2, ?_⟩
    rcases h3 with h3 | ⟨h3, b, o, fps, rfl, hb, rfl, h4⟩
    · exact .inl h3
    · refine .inr ⟨h3, b, o, fps, rfl, ?_, rfl, h4.same hs⟩
      have := hs b (List.mem_cons_self ..)
      rcases Nat.lt_or_ge b w'.heap.size with h' | h'
      · exact h'
      · rw [Array.getElem?_eq_none h', Array.getElem?_eq_getElem hb] at this
        cases this
  lt := by
    rintro w _ xs fp ⟨ad, cap, rfl, h1, h2, h3⟩ k hk
    rcases h3 with ⟨_, rfl⟩ | ⟨h3, b, o, fps, rfl, hb, rfl, h4⟩
    · cases hk
    · rcases List.mem_cons.1 hk with rfl | hk
      · exact hb
      · obtain ⟨i, hi, hk⟩ := List.mem_flatMap.1 hk
        obtain ⟨cs, h5, _⟩ := h4 i (by simpa using hi)
        exact E.lt h5 k hk
  one := by rintro _ _ _ _ ⟨_, _, rfl, _⟩ u hu; simp at hu; subst hu; rfl

/-- a number, and behind it something else: a struct -/
def Ty.cons {α : Type} (E : Ty α) : Ty (Int × α) where
  sz := 1 + E.sz
  rd := fun w cs x fp => ∃ cs', cs = .int .i64 x.1 :: cs' ∧ I64 x.1 ∧ E.rd w cs' x.2 fp
  len := by rintro _ _ _ _ ⟨cs', rfl, _, h⟩; rw [List.length_cons, E.len h]; omega
  same := by rintro _ _ _ _ _ ⟨cs', rfl, h1, h⟩ hs; exact ⟨cs', rfl, h1, E.same h hs⟩
  lt := by rintro _ _ _ _ ⟨cs', rfl, _, h⟩; exact E.lt h
  one := by
    rintro _ _ _ _ ⟨cs', rfl, _, h⟩ u hu
    rcases List.mem_cons.1 hu with rfl | hu
    · rfl
    · exact E.one h u hu

abbrev intsT : Ty (List Int) := Ty.slice Ty.int
abbrev rowsT : Ty (List (List Int)) := Ty.slice intsT
abbrev relT : Ty (Int × List (List Int)) := Ty.cons rowsT
abbrev relsT : Ty (List (Int × List (List Int))) := Ty.slice relT
abbrev tplT : Ty (Int × List (Int × List (List Int))) := Ty.cons relsT
abbrev opT : Ty (Int × List Int) := Ty.cons intsT
abbrev opsT : Ty (List (Int × List Int)) := Ty.slice opT
abbrev instT : Ty (Int × List (Int × List Int)) := Ty.cons opsT
abbrev frmT : Ty (Int × Int × List (Int × List Int)) := Ty.cons (Ty.cons opsT)

/-! what a reading gives -/
theorem Ty.slice_ex {α : Type} {E : Ty α} {w : World} {cs : List Value} {xs : List α} (h : (Ty.slice E).Rd w cs xs) :
    ∃ ad cap, cs = [.slice ad xs.length cap] ∧ xs.length ≤ cap ∧ xs.length ≤ 140737488351232 ∧
      (0 < xs.length → ∃ b o, ad = some ⟨b, o, none⟩ ∧ b < w.heap.size ∧ ∀ i (h : i < xs.length), ∃ cs, E.Rd w cs xs[i] ∧ ∀ j (hj : j < cs.length), w.cell? ⟨b, o + i * E.sz + j, none⟩ = some cs[j]) := by
  obtain ⟨fp, ad, cap, rfl, h1, h2, h3⟩ := h
  refine ⟨ad, cap, rfl, h1, h2, fun hp => ?_⟩
  rcases h3 with h3 | ⟨h3, b, o, fps, rfl, hb, rfl, h4⟩
  · omega
  · exact ⟨b, o, rfl, hb, fun i hi => let ⟨cs, h5, h6⟩ := h4 i hi; ⟨cs, ⟨_, h5⟩, h6⟩⟩

theorem ints_ex {w : World} {cs : List Value} {xs : List Int} (h : intsT.Rd w cs xs) :
    ∃ ad cap, cs = [.slice ad xs.length cap] ∧ xs.length ≤ cap ∧ xs.length ≤ 140737488351232 ∧
      (0 < xs.length → ∃ b o, ad = some ⟨b, o, none⟩ ∧ b < w.heap.size ∧ ∀ i (h : i < xs.length), I64 xs[i] ∧ w.cell? ⟨b, o + i, none⟩ = some (.int .i64 xs[i])) := by
  obtain ⟨ad, cap, h1, h2, h3, h4⟩ := Ty.slice_ex h
  refine ⟨ad, cap, h1, h2, h3, fun hp => ?_⟩
  obtain ⟨b, o, h5, h6, h7⟩ := h4 hp
  refine ⟨b, o, h5, h6, fun i hi => ?_⟩
  obtain ⟨cs, ⟨fp, rfl, h8, h9⟩, h10⟩ := h7 i hi
  exact ⟨h8, by simpa [Ty.int] using h10 0 (by simp)⟩

/-- a row whose elements take one cell each -/
theorem slices_ex {α : Type} {E : Ty α} {w : World} {cs : List Value} {xs : List (List α)} (h : (Ty.slice (Ty.slice E)).Rd w cs xs) :
    ∃ ad cap, cs = [.slice ad xs.length cap] ∧ xs.length ≤ cap ∧ xs.length ≤ 140737488351232 ∧
      (0 < xs.length → ∃ b o, ad = some ⟨b, o, none⟩ ∧ b < w.heap.size ∧ ∀ i (h : i < xs.length), ∃ v, (Ty.slice E).Rd w [v] xs[i] ∧ w.cell? ⟨b, o + i, none⟩ = some v) := by
  obtain ⟨ad, cap, h1, h2, h3, h4⟩ := Ty.slice_ex h
  refine ⟨ad, cap, h1, h2, h3, fun hp => ?_⟩
  obtain ⟨b, o, h5, h6, h7⟩ := h4 hp
  refine ⟨b, o, h5, h6, fun i hi => ?_⟩
  obtain ⟨cs, h8, h10⟩ := h7 i hi
  obtain ⟨_, _, _, rfl, _⟩ := id h8
  exact ⟨_, h8, by simpa [Ty.slice] using h10 0 (by simp)⟩

/-- a row of structs of two cells: a number and a slice -/
theorem pairs_ex {α : Type} {E : Ty α} {w : World} {cs : List Value} {xs : List (Int × List α)} (h : (Ty.slice (Ty.cons (Ty.slice E))).Rd w cs xs) :
    ∃ ad cap, cs = [.slice ad xs.length cap] ∧ xs.length ≤ cap ∧ xs.length ≤ 140737488351232 ∧
      (0 < xs.length → ∃ b o, ad = some ⟨b, o, none⟩ ∧ b < w.heap.size ∧ ∀ i (h : i < xs.length), ∃ v, (Ty.slice E).Rd w [v] xs[i].2 ∧ I64 xs[i].1 ∧
        w.cell? ⟨b, o + i * 2, none⟩ = some (.int .i64 xs[i].1) ∧ w.cell? ⟨b, o + i * 2 + 1, none⟩ = some v) := by
  obtain ⟨ad, cap, h1, h2, h3, h4⟩ := Ty.slice_ex h
  refine ⟨ad, cap, h1, h2, h3, fun hp => ?_⟩
  obtain ⟨b, o, h5, h6, h7⟩ := h4 hp
  refine ⟨b, o, h5, h6, fun i hi => ?_⟩
  obtain ⟨cs, ⟨fp, cs', rfl, hI, h8⟩, h10⟩ := h7 i hi
  obtain ⟨_, _, rfl, _⟩ := id h8
  exact ⟨_, ⟨_, h8⟩, hI, by simpa [Ty.slice, Ty.cons] using h10 0 (by simp), by simpa [Ty.slice, Ty.cons] using h10 1 (by simp)⟩

theorem rd_slice {α : Type} {E : Ty α} {w : World} {u : Value} {x : List α} (h : (Ty.slice E).Rd w [u] x) : ∃ ad cap, u = .slice ad x.length cap :=
  let ⟨_, ad, cap, hu, _⟩ := h; ⟨ad, cap, by simpa using hu⟩
theorem pair_ex {α : Type} {E : Ty α} {w : World} {cs : List Value} {x : Int × List α} (h : (Ty.cons (Ty.slice E)).Rd w cs x) :
    ∃ v, cs = [.int .i64 x.1, v] ∧ I64 x.1 ∧ (Ty.slice E).Rd w [v] x.2 := by
  obtain ⟨fp, cs', rfl, h1, h2⟩ := h
  obtain ⟨_, _, rfl, _⟩ := id h2
  exact ⟨_, rfl, h1, _, h2⟩
theorem pair_mk {α : Type} {E : Ty α} {w : World} {n : Int} {v : Value} {x : List α} (h1 : I64 n) (h : (Ty.slice E).Rd w [v] x) : (Ty.cons (Ty.slice E)).Rd w [.int .i64 n, v] (n, x) :=
  let ⟨fp, h⟩ := h; ⟨fp, _, rfl, h1, h⟩
theorem trip_ex {α : Type} {E : Ty α} {w : World} {cs : List Value} {x : Int × Int × List α} (h : (Ty.cons (Ty.cons (Ty.slice E))).Rd w cs x) :
    ∃ v, cs = [.int .i64 x.1, .int .i64 x.2.1, v] ∧ I64 x.1 ∧ I64 x.2.1 ∧ (Ty.slice E).Rd w [v] x.2.2 := by
  obtain ⟨fp, cs', rfl, h1, h2⟩ := h
  obtain ⟨v, rfl, h3, h4⟩ := pair_ex ⟨fp, h2⟩
  exact ⟨v, rfl, h1, h3, h4⟩
theorem trip_mk {α : Type} {E : Ty α} {w : World} {n m : Int} {v : Value} {x : List α} (h1 : I64 n) (h2 : I64 m) (h : (Ty.slice E).Rd w [v] x) : (Ty.cons (Ty.cons (Ty.slice E))).Rd w [.int .i64 n, .int .i64 m, v] (n, m, x) :=
  let ⟨fp, h⟩ := h; ⟨fp, _, rfl, h1, _, rfl, h2, h⟩

theorem bA {w : World} {o : Obj} : Below w.heap.size w (w.alloc o) := (Below.refl _ _).alloc (Nat.le_refl _) _
theorem bAA {w : World} {o o' : Obj} : Below w.heap.size w ((w.alloc o).alloc o') := bA.alloc (by simp) _
theorem bthen {w w1 w2 : World} (h : Below w.heap.size w w1) (h' : Below w1.heap.size w1 w2) : Below w.heap.size w w2 := h.trans (h'.mono h.size)
theorem bDN {B : Nat} {a w : World} {n : Nat} (h : Below B a w) : Below B a (w.drewN n) := ⟨h.os, h.tape, h.output, h.size, h.block⟩
theorem bD {w : World} : Below w.heap.size w w.drew := (Below.refl _ _).drew

def sumL {α : Type} (f : α → Int) : List α → Int
  | [] => 0
  | x :: r => f x + sumL f r
theorem sumL_append {α : Type} (f : α → Int) (a b : List α) : sumL f (a ++ b) = sumL f a + sumL f b := by
  induction a with
  | nil => simp [sumL]
  | cons x a ih => simp only [List.cons_append, sumL, ih]; omega
theorem sumL_succ {α : Type} (f : α → Int) {xs : List α} {k : Nat} (h : k < xs.length) : sumL f (xs.take (k + 1)) = sumL f (xs.take k) + f xs[k] := by
  rw [List.take_succ_eq_append_getElem h, sumL_append]; simp [sumL]
theorem sumL_nonneg {α : Type} {f : α → Int} (hf : ∀ x, 0 ≤ f x) (xs : List α) : 0 ≤ sumL f xs := by
  induction xs with
  | nil => exact Int.le_refl _
  | cons x r ih => have := hf x; simp only [sumL]; omega
theorem sumL_take_le {α : Type} {f : α → Int} (hf : ∀ x, 0 ≤ f x) (xs : List α) (k : Nat) : sumL f (xs.take k) ≤ sumL f xs := by
  have h := sumL_append f (xs.take k) (xs.drop k)
  rw [List.take_append_drop] at h
  have := sumL_nonneg hf (xs.drop k)
  omega

theorem sumL_get_le {α : Type} {f : α → Int} (hf : ∀ x, 0 ≤ f x) {xs : List α} {k : Nat} (h : k < xs.length) : f xs[k] ≤ sumL f xs := by
  have h1 := sumL_succ f h
  have h2 := sumL_take_le hf xs (k + 1)
  have h3 := sumL_nonneg hf (xs.take k)
  omega
/-- the first place at which p holds, or -1; whether there is one -/
def firstI {α : Type} (p : α → Bool) (xs : List α) : Int := match xs.findIdx? p with | some i => i | none => -1
def anyB {α : Type} (p : α → Bool) (xs : List α) : Bool := xs.any p
def noneB {α : Type} (p : α → Bool) (xs : List α) : Prop := ∀ x ∈ xs, p x = false
theorem noneB_zero {α : Type} (p : α → Bool) (xs : List α) : noneB p (xs.take 0) := by intro x hx; simp at hx
theorem noneB_succ {α : Type} {p : α → Bool} {xs : List α} {k : Nat} (h : k < xs.length) (ht : noneB p (xs.take k)) (hq : p xs[k] = false) : noneB p (xs.take (k + 1)) := by
  intro x hx
  rw [List.take_succ_eq_append_getElem h, List.mem_append] at hx
  rcases hx with hx | hx
  · exact ht x hx
  · simp at hx; rw [hx]; exact hq
theorem firstI_none {α : Type} {p : α → Bool} {xs : List α} (h : noneB p xs) : firstI p xs = -1 := by
  have : xs.findIdx? p = none := by rw [List.findIdx?_eq_none_iff]; exact h
  simp [firstI, this]
theorem firstI_at {α : Type} {p : α → Bool} {xs : List α} {k : Nat} (h : k < xs.length) (ht : noneB p (xs.take k)) (hq : p xs[k] = true) : firstI p xs = k := by
  have : xs.findIdx? p = some k := by
    rw [List.findIdx?_eq_some_iff_getElem]
    refine ⟨h, hq, fun j hj => ?_⟩
    have hj' : j < (xs.take k).length := by rw [List.length_take]; omega
    have := ht (xs.take k)[j] (List.getElem_mem hj')
    rw [List.getElem_take] at this
    simp [this]
  simp [firstI, this]
theorem firstI_any {α : Type} (p : α → Bool) (xs : List α) : decide (0 ≤ firstI p xs) = anyB p xs := by
  unfold firstI anyB
  cases h : xs.findIdx? p with
  | none => rw [List.findIdx?_eq_none_iff] at h; simp; exact h
  | some i =>
    rw [List.findIdx?_eq_some_iff_getElem] at h
    obtain ⟨h1, h2, _⟩ := h
    simp
    exact ⟨_, List.getElem_mem h1, h2⟩
/-- element by element -/
def eqU {α : Type} (p : α → α → Bool) (xs ys : List α) (k : Nat) : Prop := ∀ i (h : i < xs.length) (h' : i < ys.length), i < k → p xs[i] ys[i] = true
def eqL {α : Type} (p : α → α → Bool) : List α → List α → Bool
  | [], [] => true
  | x :: xs, y :: ys => p x y && eqL p xs ys
  | _, _ => false
theorem eqL_iff {α : Type} {p : α → α → Bool} : ∀ {xs ys : List α}, eqL p xs ys = true ↔ xs.length = ys.length ∧ ∀ i (h : i < xs.length) (h' : i < ys.length), p xs[i] ys[i] = true
  | [], [] => by simp [eqL]
  | x :: xs, [] => by simp [eqL]
  | [], y :: ys => by simp [eqL]
  | x :: xs, y :: ys => by
    simp only [eqL, Bool.and_eq_true, eqL_iff (xs := xs), List.length_cons]
    constructor
    · rintro ⟨h1, h2, h3⟩
      refine ⟨by omega, fun i hi hi' => ?_⟩
      match i with
      | 0 => exact h1
      | i + 1 => exact h3 i (by simpa using hi) (by simpa using hi')
    · rintro ⟨h1, h2⟩
      exact ⟨h2 0 (by simp) (by simp), by omega, fun i hi hi' => h2 (i + 1) (by simpa using hi) (by simpa using hi')⟩
theorem eqU_zero {α : Type} (p : α → α → Bool) (xs ys : List α) : eqU p xs ys 0 := fun _ _ _ h => absurd h (Nat.not_lt_zero _)
theorem eqU_succ {α : Type} {p : α → α → Bool} {xs ys : List α} {k : Nat} (h : k < xs.length) (h' : k < ys.length) (hu : eqU p xs ys k) (hq : p xs[k] ys[k] = true) : eqU p xs ys (k + 1) := fun i hi hi' hlt => by
  by_cases e : i = k
  · subst e; exact hq
  · exact hu i hi hi' (by omega)
theorem eqL_yes {α : Type} {p : α → α → Bool} {xs ys : List α} (hn : xs.length = ys.length) (hu : eqU p xs ys xs.length) : eqL p xs ys = true := eqL_iff.2 ⟨hn, fun i h h' => hu i h h' h⟩
theorem eqL_no {α : Type} {p : α → α → Bool} {xs ys : List α} (_hn : xs.length = ys.length) {k : Nat} (h : k < xs.length) (h' : k < ys.length) (hq : p xs[k] ys[k] = false) : eqL p xs ys = false := by
  rw [← Bool.not_eq_true, eqL_iff]
  rintro ⟨_, h2⟩
  rw [h2 k h h'] at hq
  cases hq
theorem eqL_len {α : Type} {p : α → α → Bool} {xs ys : List α} (hn : xs.length ≠ ys.length) : eqL p xs ys = false := by
  rw [← Bool.not_eq_true, eqL_iff]
  exact fun h => hn h.1
theorem eqL_eqB {α : Type} [DecidableEq α] (xs ys : List α) : eqL eqB xs ys = eqB xs ys := by
  rw [Bool.eq_iff_iff, eqL_iff, eqB_iff]
  constructor
  · rintro ⟨h1, h2⟩
    exact List.ext_getElem h1 fun i h h' => eqB_iff.1 (h2 i h h')
  · rintro rfl
    exact ⟨rfl, fun _ _ _ => eqB_true rfl⟩
theorem enters {P : Program} {f : FuncId} {fn : Func} {c : Code} (hf : P.funcs[f]? = some fn) (hname : (fn.name == "runtime.NumGoroutine") = false) (hb : fn.body = some c) : ∀ args w, (callFunc f args).run P w = .ok (.enter f args) w := by
  intro args w
  have h1 : fn.name ≠ "runtime.NumGoroutine" := by simpa using hname
  simp [callFunc, hf, h1, hb, mark]

/-- how much a datum holds -/
def szR (left n : Int) : Int := if left < n then -1 else left - n
theorem szR_lt {left n : Int} (h : left < n) : szR left n = -1 := if_pos h
theorem szR_ge {left n : Int} (h : n ≤ left) : szR left n = left - n := if_neg (by omega)
def szInts (xs : List Int) : Int := xs.length
def szSl {α : Type} (f : α → Int) (xs : List α) : Int := xs.length + sumL f xs
theorem szSl_nn {α : Type} {f : α → Int} (hf : ∀ x, 0 ≤ f x) (xs : List α) : 0 ≤ szSl f xs := by have := sumL_nonneg hf xs; unfold szSl; omega
def szRows (xs : List (List Int)) : Int := szSl szInts xs
def szRel (x : Int × List (List Int)) : Int := szRows x.2
def szRels (xs : List (Int × List (List Int))) : Int := szSl szRel xs
def szTpl (x : Int × List (Int × List (List Int))) : Int := szRels x.2
def szOp (x : Int × List Int) : Int := szInts x.2
def szOps (xs : List (Int × List Int)) : Int := szSl szOp xs
def szFrm (x : Int × Int × List (Int × List Int)) : Int := szOps x.2.2
def szInst (x : Int × List (Int × List Int)) : Int := szOps x.2
theorem szInts_nn (xs : List Int) : 0 ≤ szInts xs := by unfold szInts; omega
theorem szRows_nn (xs : List (List Int)) : 0 ≤ szRows xs := szSl_nn szInts_nn xs
theorem szRel_nn (x : Int × List (List Int)) : 0 ≤ szRel x := szRows_nn _
theorem szRels_nn (xs : List (Int × List (List Int))) : 0 ≤ szRels xs := szSl_nn szRel_nn xs
theorem szTpl_nn (x : Int × List (Int × List (List Int))) : 0 ≤ szTpl x := szRels_nn _
theorem szOp_nn (x : Int × List Int) : 0 ≤ szOp x := szInts_nn _
theorem szOps_nn (xs : List (Int × List Int)) : 0 ≤ szOps xs := szSl_nn szOp_nn xs
theorem szFrm_nn (x : Int × Int × List (Int × List Int)) : 0 ≤ szFrm x := szOps_nn _
theorem szInst_nn (x : Int × List (Int × List Int)) : 0 ≤ szInst x := szOps_nn _
theorem agg_of {cs : Array Value} {l : List Value} (h : cs.toList = l) : cs = l.toArray := by rw [← h]

/-- a pointer to a datum -/
def Ty.Pt {α : Type} (E : Ty α) (w : World) (v : Value) (x : α) : Prop := ∃ b o cs, v = .pointer (some ⟨b, o, none⟩) ∧ b < w.heap.size ∧ E.Rd w cs x ∧ ∀ j (hj : j < cs.length), w.cell? ⟨b, o + j, none⟩ = some cs[j]
theorem Ty.Pt.below {α : Type} {E : Ty α} {w w' : World} {v : Value} {x : α} (h : E.Pt w v x) (hb : Below w.heap.size w w') : E.Pt w' v x :=
  let ⟨b, o, cs, h1, h2, h3, h4⟩ := h
  ⟨b, o, cs, h1, Nat.lt_of_lt_of_le h2 hb.size, h3.below hb, fun j hj => (hb.cell h2).trans (h4 j hj)⟩
theorem pt_box {α : Type} {E : Ty α} {w : World} {cs : List Value} {x : α} {T : TypeId} (h : E.Rd w cs x) : E.Pt (w.alloc (.cells cs.toArray T)) (.pointer (some ⟨w.heap.size, 0, none⟩)) x :=
  ⟨_, 0, cs, rfl, by simp, h.below bA, fun j hj => by unfold World.cell?; rw [heap_alloc_new]; simp [hj]⟩
theorem pt_pair {α : Type} {E : Ty α} {w : World} {v : Value} {x : Int × List α} (h : (Ty.cons (Ty.slice E)).Pt w v x) :
    ∃ b o ad cap, v = .pointer (some ⟨b, o, none⟩) ∧ b < w.heap.size ∧ I64 x.1 ∧ w.cell? ⟨b, o, none⟩ = some (.int .i64 x.1) ∧ w.cell? ⟨b, o + 1, none⟩ = some (.slice ad x.2.length cap) ∧ (Ty.slice E).Rd w [.slice ad x.2.length cap] x.2 := by
  obtain ⟨b, o, cs, rfl, hb, h, hc⟩ := h
  obtain ⟨u, rfl, hI, hu⟩ := pair_ex h
  obtain ⟨ad, cap, rfl⟩ := rd_slice hu
  exact ⟨b, o, ad, cap, rfl, hb, hI, by simpa using hc 0 (by simp), by simpa using hc 1 (by simp), hu⟩
theorem pt_trip {α : Type} {E : Ty α} {w : World} {v : Value} {x : Int × Int × List α} (h : (Ty.cons (Ty.cons (Ty.slice E))).Pt w v x) :
    ∃ b o ad cap, v = .pointer (some ⟨b, o, none⟩) ∧ b < w.heap.size ∧ I64 x.1 ∧ I64 x.2.1 ∧ w.cell? ⟨b, o, none⟩ = some (.int .i64 x.1) ∧ w.cell? ⟨b, o + 1, none⟩ = some (.int .i64 x.2.1) ∧ w.cell? ⟨b, o + 2, none⟩ = some (.slice ad x.2.2.length cap) ∧ (Ty.slice E).Rd w [.slice ad x.2.2.length cap] x.2.2 := by
  obtain ⟨b, o, cs, rfl, hb, h, hc⟩ := h
  obtain ⟨u, rfl, hI, hI2, hu⟩ := trip_ex h
  obtain ⟨ad, cap, rfl⟩ := rd_slice hu
  exact ⟨b, o, ad, cap, rfl, hb, hI, hI2, by simpa using hc 0 (by simp), by simpa using hc 1 (by simp), by simpa using hc 2 (by simp), hu⟩
theorem pt_elem {α : Type} {E : Ty α} {w : World} {b o n cap : Nat} {xs : List α} (h : (Ty.slice E).Rd w [.slice (some ⟨b, o, none⟩) n cap] xs) {k : Nat} (hk : k < xs.length) : E.Pt w (.pointer (some ⟨b, o + k * E.sz, none⟩)) xs[k] := by
  obtain ⟨ad, cap', hv, _, _, h3⟩ := Ty.slice_ex h
  simp only [List.cons.injEq, Value.slice.injEq, and_true] at hv
  obtain ⟨rfl, rfl, rfl⟩ := hv
  obtain ⟨b', o', he, hb, h4⟩ := h3 (by omega)
  simp only [Option.some.injEq, Addr.mk.injEq, and_true] at he
  obtain ⟨rfl, rfl⟩ := he
  obtain ⟨cs, h5, h6⟩ := h4 k hk
  exact ⟨b, _, cs, rfl, hb, h5, h6⟩

theorem quiet_call {P : Program} {f : FuncId} {args : Array Value} {w : World} {n : Nat} {v : Value} (h : Calls P f args (w.drewN n) fun e w' => e = .returned v ∧ Quiet (w.drewN n) w') :
    Calls P f args (w.drewN n) fun e w'' => e = .returned v ∧ ∃ m, w'' = w.drewN m :=
  h.mono fun _ _ ⟨he, hm⟩ => ⟨he, (Quiet.drewN w n).then hm⟩

/-- all old cells and marks read as before -/
theorem bcell {W w1 : World} (hb : Below W.heap.size W w1) : (∀ b o, b < W.heap.size → w1.cell? ⟨b, o, none⟩ = W.cell? ⟨b, o, none⟩) ∧ (∀ b o, b < W.heap.size → w1.frozen? ⟨b, o, none⟩ = W.frozen? ⟨b, o, none⟩) :=
  ⟨fun b o h => hb.cell (p := ⟨b, o, none⟩) h, fun b o h => hb.frozen (p := ⟨b, o, none⟩) h⟩
end Go.Proofs.Ytepebfpgmnidnaa
