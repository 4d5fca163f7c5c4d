/-
  What a value reads as, in a world: numbers, slices, structs by value; which blocks hold it; that it stays while these blocks stay. No program is named here.
-/
import Derived.WalkKit
import Derived.WalkLawsBesides
import Derived.WalkSpells
import Derived.Deep.QuietTactic
import Derived.BigQuiet
import Derived.Lib.Hide
namespace Go.Proofs.Ytiffaeiiodmnfaa
open Go.RowKit

def inB (a lo hi : Int) : Bool := decide (lo ≤ a) && decide (a ≤ hi)
theorem inB_lt {a lo hi : Int} (h : a < lo) : inB a lo hi = false := by simp [inB]; omega
theorem inB_gt {a lo hi : Int} (h : hi < a) : inB a lo hi = false := by simp [inB]; omega
theorem inB_le {a lo hi : Int} (h : lo ≤ a) : inB a lo hi = decide (a ≤ hi) := by simp [inB, h]
theorem inB_true {a lo hi : Int} : inB a lo hi = true ↔ lo ≤ a ∧ a ≤ hi := by simp [inB]
theorem inB_false {a lo hi : Int} : inB a lo hi = false ↔ ¬ (lo ≤ a ∧ a ≤ hi) := by rw [← Bool.not_eq_true, inB_true]
theorem ret_bool {a b : Bool} (h : a = b) : Ending.returned (.bool a) = .returned (.bool b) := by rw [h]
theorem ret_int {a b : Int} (h : a = b) : Ending.returned (.int .i64 a) = .returned (.int .i64 b) := by rw [h]

/-- a number of 64 bits -/
def I64 (n : Int) : Prop := -9223372036854775808 ≤ n ∧ n ≤ 9223372036854775807
theorem I64.of {n : Int} (h : (Lit.int .i64 n).wf = true) : I64 n := by simpa [Lit.wf, IntKind.min, IntKind.max, IntKind.signed, IntKind.bits, I64] using h
theorem I64.small {n : Int} (h : -1000000000000000000 ≤ n) (h' : n ≤ 1000000000000000000) : I64 n := ⟨by omega, by omega⟩

/-- the size of a world's heap, behind a name -/
def Same (fp : List Nat) (w w' : World) : Prop := ∀ k ∈ fp, w'.heap[k]? = w.heap[k]?
theorem Same.below {B : Nat} {w w' : World} {fp : List Nat} (h : Below B w w') (hf : ∀ k ∈ fp, k < B) : Same fp w w' := fun k hk => h.block k (hf k hk)
theorem Same.refl (fp : List Nat) (w : World) : Same fp w w := fun _ _ => rfl
theorem Same.trans {fp : List Nat} {a b c : World} (h : Same fp a b) (h' : Same fp b c) : Same fp a c := fun k hk => (h' k hk).trans (h k hk)

theorem cell_lt {w : World} {b o : Nat} {v : Value} (h : w.cell? ⟨b, o, none⟩ = some v) : b < w.heap.size := by
  rcases Nat.lt_or_ge b w.heap.size with h' | h'
  · exact h'
  · simp [World.cell?, Array.getElem?_eq_none h'] at h

/-- a kind of datum: how many cells it takes, and what it is to read as one, through which blocks -/
structure Ty (α : Type) where
  sz : Nat
  rd : World → List Value → α → List Nat → Prop
  len : ∀ {w cs x fp}, rd w cs x fp → cs.length = sz
  same : ∀ {w w' cs x fp}, rd w cs x fp → Same fp w w' → rd w' cs x fp
  lt : ∀ {w cs x fp}, rd w cs x fp → ∀ k ∈ fp, k < w.heap.size
  one : ∀ {w cs x fp}, rd w cs x fp → ∀ u ∈ cs, u.oneCell' = true

def Ty.Rd {α : Type} (E : Ty α) (w : World) (cs : List Value) (x : α) : Prop := ∃ fp, E.rd w cs x fp
theorem Ty.Rd.below {α : Type} {E : Ty α} {w w' : World} {cs : List Value} {x : α} (h : E.Rd w cs x) (hb : Below w.heap.size w w') : E.Rd w' cs x :=
  let ⟨fp, h⟩ := h; ⟨fp, E.same h (Same.below hb (E.lt h))⟩
/-- read in blocks below B -/
def Ty.RdB {α : Type} (E : Ty α) (B : Nat) (w : World) (cs : List Value) (x : α) : Prop := ∃ fp, E.rd w cs x fp ∧ ∀ k ∈ fp, k < B
theorem Ty.RdB.rd {α : Type} {E : Ty α} {B : Nat} {w : World} {cs : List Value} {x : α} (h : E.RdB B w cs x) : E.Rd w cs x := let ⟨fp, h, _⟩ := h; ⟨fp, h⟩
theorem Ty.Rd.B {α : Type} {E : Ty α} {w : World} {cs : List Value} {x : α} (h : E.Rd w cs x) : E.RdB w.heap.size w cs x := let ⟨fp, h⟩ := h; ⟨fp, h, E.lt h⟩
theorem Ty.RdB.below {α : Type} {E : Ty α} {B B' : Nat} {w w' : World} {cs : List Value} {x : α} (h : E.RdB B w cs x) (hb : Below B' w w') (hB : B ≤ B') : E.RdB B w' cs x :=
  let ⟨fp, h, hf⟩ := h; ⟨fp, E.same h (fun k hk => hb.block k (Nat.lt_of_lt_of_le (hf k hk) hB)), hf⟩
theorem Ty.RdB.mono {α : Type} {E : Ty α} {B B' : Nat} {w : World} {cs : List Value} {x : α} (h : E.RdB B w cs x) (hB : B ≤ B') : E.RdB B' w cs x :=
  let ⟨fp, h, hf⟩ := h; ⟨fp, h, fun k hk => Nat.lt_of_lt_of_le (hf k hk) hB⟩

def Ty.int : Ty Int where
  sz := 1
  rd := fun _ cs n fp => cs = [.int .i64 n] ∧ I64 n ∧ fp = []
  len := by rintro _ _ _ _ ⟨rfl, _, _⟩; rfl
  same := fun h _ => h
  lt := by rintro _ _ _ _ ⟨rfl, _, rfl⟩ k hk; cases hk
  one := by rintro _ _ _ _ ⟨rfl, _, _⟩ u hu; simp at hu; subst hu; rfl

def Ty.bool : Ty Bool where
  sz := 1
  rd := fun _ cs n fp => cs = [.bool n] ∧ fp = []
  len := by rintro _ _ _ _ ⟨rfl, _⟩; rfl
  same := fun h _ => h
  lt := by rintro _ _ _ _ ⟨rfl, rfl⟩ k hk; cases hk
  one := by rintro _ _ _ _ ⟨rfl, _⟩ u hu; simp at hu; subst hu; rfl

/-- a bound on every slice's capacity -/
abbrev capMax : Nat := 140737488351232

/-- the cells of a row of elements -/
def rowRd {α : Type} (E : Ty α) (w : World) (b o : Nat) (xs : List α) (fps : Nat → List Nat) : Prop :=
  ∀ i (h : i < xs.length), ∃ cs, E.rd w cs xs[i] (fps i) ∧ ∀ j (hj : j < cs.length), w.cell? ⟨b, o + i * E.sz + j, none⟩ = some cs[j]

def sliceRd {α : Type} (E : Ty α) (w : World) (cs : List Value) (xs : List α) (fp : List Nat) : Prop :=
  ∃ ad cap, cs = [.slice ad xs.length cap] ∧ xs.length ≤ cap ∧ cap ≤ capMax ∧
    ((xs.length = 0 ∧ fp = []) ∨ (0 < xs.length ∧ ∃ b o fps, ad = some ⟨b, o, none⟩ ∧ b < w.heap.size ∧ fp = b :: (List.range xs.length).flatMap fps ∧ rowRd E w b o xs fps))

theorem rowRd.same {α : Type} {E : Ty α} {w w' : World} {b o : Nat} {xs : List α} {fps : Nat → List Nat} (h : rowRd E w b o xs fps) (hs : Same (b :: (List.range xs.length).flatMap fps) w w') : rowRd E w' b o xs fps := by
  intro i hi
  obtain ⟨cs, h1, h2⟩ := h i hi
  refine ⟨cs, E.same h1 fun k hk => hs k (List.mem_cons_of_mem _ (List.mem_flatMap.2 ⟨i, by simpa using hi, hk⟩)), fun j hj => ?_⟩
  rw [← h2 j hj]
  exact World.cell?_of_block (hs b (List.mem_cons_self ..))

def Ty.slice {α : Type} (E : Ty α) : Ty (List α) where
  sz := 1
  rd := sliceRd E
  len := by rintro _ _ _ _ ⟨_, _, rfl, _⟩; rfl
  same := by
    rintro w w' _ xs fp ⟨ad, cap, rfl, h1, h2, h3⟩ hs
    refine ⟨ad, cap, rfl, h1, h2, ?_⟩
    rcases h3 with h3 | ⟨h3, b, o, fps, rfl, hb, rfl, h4⟩
    · exact .inl h3
    · refine .inr ⟨h3, b, o, fps, rfl, ?_, rfl, h4.same hs⟩
      have := hs b (List.mem_cons_self ..)
      rcases Nat.lt_or_ge b w'.heap.size with h' | h'
      · exact h'
      · rw [Array.getElem?_eq_none h', Array.getElem?_eq_getElem hb] at this
        cases this
  lt := by
    rintro w _ xs fp ⟨ad, cap, rfl, h1, h2, h3⟩ k hk
    rcases h3 with ⟨_, rfl⟩ | ⟨h3, b, o, fps, rfl, hb, rfl, h4⟩
    · cases hk
    · rcases List.mem_cons.1 hk with rfl | hk
      · exact hb
      · obtain ⟨i, hi, hk⟩ := List.mem_flatMap.1 hk
        obtain ⟨cs, h5, _⟩ := h4 i (by simpa using hi)
        exact E.lt h5 k hk
  one := by rintro _ _ _ _ ⟨_, _, rfl, _⟩ u hu; simp at hu; subst hu; rfl

/-- a number, and behind it something else: a struct -/
def Ty.cons {α : Type} (E : Ty α) : Ty (Int × α) where
  sz := 1 + E.sz
  rd := fun w cs x fp => ∃ cs', cs = .int .i64 x.1 :: cs' ∧ I64 x.1 ∧ E.rd w cs' x.2 fp
  len := by rintro _ _ _ _ ⟨cs', rfl, _, h⟩; rw [List.length_cons, E.len h]; omega
  same := by rintro _ _ _ _ _ ⟨cs', rfl, h1, h⟩ hs; exact ⟨cs', rfl, h1, E.same h hs⟩
  lt := by rintro _ _ _ _ ⟨cs', rfl, _, h⟩; exact E.lt h
  one := by
    rintro _ _ _ _ ⟨cs', rfl, _, h⟩ u hu
    rcases List.mem_cons.1 hu with rfl | hu
    · rfl
    · exact E.one h u hu

abbrev intsT : Ty (List Int) := Ty.slice Ty.int
abbrev rowsT : Ty (List (List Int)) := Ty.slice intsT
abbrev relT : Ty (Int × List (List Int)) := Ty.cons rowsT
abbrev relsT : Ty (List (Int × List (List Int))) := Ty.slice relT
abbrev tplT : Ty (Int × List (Int × List (List Int))) := Ty.cons relsT
abbrev opT : Ty (Int × List Int) := Ty.cons intsT
abbrev opsT : Ty (List (Int × List Int)) := Ty.slice opT
abbrev frmT : Ty (Int × Int × List (Int × List Int)) := Ty.cons (Ty.cons opsT)

/-! what a reading gives -/
theorem Ty.slice_ex {α : Type} {E : Ty α} {w : World} {cs : List Value} {xs : List α} (h : (Ty.slice E).Rd w cs xs) :
    ∃ ad cap, cs = [.slice ad xs.length cap] ∧ xs.length ≤ cap ∧ cap ≤ capMax ∧
      (0 < xs.length → ∃ b o, ad = some ⟨b, o, none⟩ ∧ b < w.heap.size ∧ ∀ i (h : i < xs.length), ∃ cs, E.Rd w cs xs[i] ∧ ∀ j (hj : j < cs.length), w.cell? ⟨b, o + i * E.sz + j, none⟩ = some cs[j]) := by
  obtain ⟨fp, ad, cap, rfl, h1, h2, h3⟩ := h
  refine ⟨ad, cap, rfl, h1, h2, fun hp => ?_⟩
  rcases h3 with h3 | ⟨h3, b, o, fps, rfl, hb, rfl, h4⟩
  · omega
  · exact ⟨b, o, rfl, hb, fun i hi => let ⟨cs, h5, h6⟩ := h4 i hi; ⟨cs, ⟨_, h5⟩, h6⟩⟩

theorem ints_ex {w : World} {cs : List Value} {xs : List Int} (h : intsT.Rd w cs xs) :
    ∃ ad cap, cs = [.slice ad xs.length cap] ∧ xs.length ≤ cap ∧ cap ≤ capMax ∧
      (0 < xs.length → ∃ b o, ad = some ⟨b, o, none⟩ ∧ b < w.heap.size ∧ ∀ i (h : i < xs.length), I64 xs[i] ∧ w.cell? ⟨b, o + i, none⟩ = some (.int .i64 xs[i])) := by
  obtain ⟨ad, cap, h1, h2, h3, h4⟩ := Ty.slice_ex h
  refine ⟨ad, cap, h1, h2, h3, fun hp => ?_⟩
  obtain ⟨b, o, h5, h6, h7⟩ := h4 hp
  refine ⟨b, o, h5, h6, fun i hi => ?_⟩
  obtain ⟨cs, ⟨fp, rfl, h8, h9⟩, h10⟩ := h7 i hi
  exact ⟨h8, by simpa [Ty.int] using h10 0 (by simp)⟩

/-- a row whose elements take one cell each -/
theorem slices_ex {α : Type} {E : Ty α} {w : World} {cs : List Value} {xs : List (List α)} (h : (Ty.slice (Ty.slice E)).Rd w cs xs) :
    ∃ ad cap, cs = [.slice ad xs.length cap] ∧ xs.length ≤ cap ∧ cap ≤ capMax ∧
      (0 < xs.length → ∃ b o, ad = some ⟨b, o, none⟩ ∧ b < w.heap.size ∧ ∀ i (h : i < xs.length), ∃ v, (Ty.slice E).Rd w [v] xs[i] ∧ w.cell? ⟨b, o + i, none⟩ = some v) := by
  obtain ⟨ad, cap, h1, h2, h3, h4⟩ := Ty.slice_ex h
  refine ⟨ad, cap, h1, h2, h3, fun hp => ?_⟩
  obtain ⟨b, o, h5, h6, h7⟩ := h4 hp
  refine ⟨b, o, h5, h6, fun i hi => ?_⟩
  obtain ⟨cs, h8, h10⟩ := h7 i hi
  obtain ⟨_, _, _, rfl, _⟩ := id h8
  exact ⟨_, h8, by simpa [Ty.slice] using h10 0 (by simp)⟩

/-- a row of structs of two cells: a number and a slice -/
theorem pairs_ex {α : Type} {E : Ty α} {w : World} {cs : List Value} {xs : List (Int × List α)} (h : (Ty.slice (Ty.cons (Ty.slice E))).Rd w cs xs) :
    ∃ ad cap, cs = [.slice ad xs.length cap] ∧ xs.length ≤ cap ∧ cap ≤ capMax ∧
      (0 < xs.length → ∃ b o, ad = some ⟨b, o, none⟩ ∧ b < w.heap.size ∧ ∀ i (h : i < xs.length), ∃ v, (Ty.slice E).Rd w [v] xs[i].2 ∧ I64 xs[i].1 ∧
        w.cell? ⟨b, o + i * 2, none⟩ = some (.int .i64 xs[i].1) ∧ w.cell? ⟨b, o + i * 2 + 1, none⟩ = some v) := by
  obtain ⟨ad, cap, h1, h2, h3, h4⟩ := Ty.slice_ex h
  refine ⟨ad, cap, h1, h2, h3, fun hp => ?_⟩
  obtain ⟨b, o, h5, h6, h7⟩ := h4 hp
  refine ⟨b, o, h5, h6, fun i hi => ?_⟩
  obtain ⟨cs, ⟨fp, cs', rfl, hI, h8⟩, h10⟩ := h7 i hi
  obtain ⟨_, _, rfl, _⟩ := id h8
  exact ⟨_, ⟨_, h8⟩, hI, by simpa [Ty.slice, Ty.cons] using h10 0 (by simp), by simpa [Ty.slice, Ty.cons] using h10 1 (by simp)⟩

theorem pair_ex {α : Type} {E : Ty α} {w : World} {cs : List Value} {x : Int × List α} (h : (Ty.cons (Ty.slice E)).Rd w cs x) :
    ∃ v, cs = [.int .i64 x.1, v] ∧ I64 x.1 ∧ (Ty.slice E).Rd w [v] x.2 := by
  obtain ⟨fp, cs', rfl, h1, h2⟩ := h
  obtain ⟨_, _, rfl, _⟩ := id h2
  exact ⟨_, rfl, h1, _, h2⟩
theorem pair_mk {α : Type} {E : Ty α} {w : World} {n : Int} {v : Value} {x : List α} (h1 : I64 n) (h : (Ty.slice E).Rd w [v] x) : (Ty.cons (Ty.slice E)).Rd w [.int .i64 n, v] (n, x) :=
  let ⟨fp, h⟩ := h; ⟨fp, _, rfl, h1, h⟩
theorem trip_ex {α : Type} {E : Ty α} {w : World} {cs : List Value} {x : Int × Int × List α} (h : (Ty.cons (Ty.cons (Ty.slice E))).Rd w cs x) :
    ∃ v, cs = [.int .i64 x.1, .int .i64 x.2.1, v] ∧ I64 x.1 ∧ I64 x.2.1 ∧ (Ty.slice E).Rd w [v] x.2.2 := by
  obtain ⟨fp, cs', rfl, h1, h2⟩ := h
  obtain ⟨v, rfl, h3, h4⟩ := pair_ex ⟨fp, h2⟩
  exact ⟨v, rfl, h1, h3, h4⟩
theorem trip_mk {α : Type} {E : Ty α} {w : World} {n m : Int} {v : Value} {x : List α} (h1 : I64 n) (h2 : I64 m) (h : (Ty.slice E).Rd w [v] x) : (Ty.cons (Ty.cons (Ty.slice E))).Rd w [.int .i64 n, .int .i64 m, v] (n, m, x) :=
  let ⟨fp, h⟩ := h; ⟨fp, _, rfl, h1, _, rfl, h2, h⟩

/-- all old cells and marks read as before -/
theorem bcell {W w1 : World} (hb : Below W.heap.size W w1) : (∀ b o, b < W.heap.size → w1.cell? ⟨b, o, none⟩ = W.cell? ⟨b, o, none⟩) ∧ (∀ b o, b < W.heap.size → w1.frozen? ⟨b, o, none⟩ = W.frozen? ⟨b, o, none⟩) :=
  ⟨fun b o h => hb.cell (p := ⟨b, o, none⟩) h, fun b o h => hb.frozen (p := ⟨b, o, none⟩) h⟩
end Go.Proofs.Ytiffaeiiodmnfaa
