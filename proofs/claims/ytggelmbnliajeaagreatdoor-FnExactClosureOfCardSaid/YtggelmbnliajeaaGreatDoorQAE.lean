/-
Plain: the first operation of a kind, and the first one with a value at a list, in the list of all.
Plain: FirstPolymorphism and PolymorphismWith against the list of all operations.
Plain: when a polymorphism with given values is found: when there is one.
Contracts: a polymorphism with given values, the reference's, whole.
Plain: how great an operation with given values is.
Contracts: the lists of the values of tuples at all places, both sides.
Contracts: the code of tuples of which there may be a hull, both sides.
Some rows of new data that now stand in a newer row: it is new data, too. No program is named here.
The hull of tuples: what it is; the relation of all tuples; contracts: the reference's hull.
Contracts: the hull of tuples, the reference's.
Contracts: the hull of tuples, the program's.
Contracts: the hull of tuples, whole, both sides.
Contracts: the laws' own small functions on bytes; plain facts on the operations that are found.
Plain: the hull of tuples: what polymorphisms make of them.
Plain: the hull is a relation, and operations that keep the template keep it.
Contracts: whether two relations are the same, the reference's.
Contracts: the hull of a relation; whether a relation is definable; both sides.
Contracts: whether a relation is definable, both sides.
Contracts: an operation that breaks a relation, the program's.
Contracts: tuples drawn from bytes; an operation applied; the kind of an operation, checked.
Plain: the index of the first one of a kind, of the first one with a value; one number, just made.
Plain: whether a relation is its own hull, and the operation that breaks it where it is not.
Plain: the closure of a set of tuples under operations.
Contracts: the closure of a set of tuples under operations, the reference's.
What ClosureOf answers; contracts: whether operations are valid.
Contracts: a relation made of tuples, the reference's.
A map of the call's own from texts to truth values: a set of texts. No program is named here.
Plain: the program's closure: what is combined of lists of which one at least is the last; when all is closed.
The library's contracts, laid at this seat's program. Written by the kit's lay-shelf and lay-plain: its numbers hold for that seat alone (shelf2.py).
Texts: bytes joined; decimal numbers; rows of texts; the library's Join. Contracts of dec, digits, spaced, Decimal.
-/
import Derived.Test.YtggelmbnliajeaaGreatDoorQAD
import Derived.Test.YtggelmbnliajeaaGreatDoorQAB
import Derived.Test.YtggelmbnliajeaaGreatDoorQAC
import Derived.Deep.LoopGhost
import Derived.Maps.OwnOps
import Derived.Maps.OwnSet
import Derived.Maps.Views
import Derived.StringKeys
import Derived.Shelf.Strconv.Itoa4
import Derived.Test.YtggelmbnliajeaaGreatDoorProg
import Derived.Test.YtggelmbnliajeaaGreatDoorQAA
namespace Go.Proofs.YtggelmbnliajeaaGreatDoor
open Go.RowKit Go.Sort
/-- the first one of a list for which p, or none -/
def FstR {α : Type} (p : α → Bool) (K : List α) (hit : List α → α → Prop) (miss : Prop) : Prop := (∃ K1 x K2, K = K1 ++ x :: K2 ∧ (∀ y ∈ K1, p y = false) ∧ p x = true ∧ hit K1 x) ∨ ((∀ y ∈ K, p y = false) ∧ miss)
theorem FstR.pre {α : Type} {p : α → Bool} {A B : List α} {hit hit' : List α → α → Prop} {miss miss' : Prop} (hA : ∀ y ∈ A, p y = false) (h : FstR p B hit miss) (h1 : ∀ K x, hit K x → hit' (A ++ K) x) (h2 : miss → miss') : FstR p (A ++ B) hit' miss' := by
 rcases h with ⟨K1, x, K2, rfl, g1, g2, g3⟩ | ⟨g1, g2⟩
 ·refine .inl ⟨A ++ K1, x, K2, by simp, fun y hy => (List.mem_append.1 hy).elim (hA y) (g1 y), g2, h1 _ _ g3⟩
 ·exact .inr ⟨fun y hy => (List.mem_append.1 hy).elim (hA y) (g1 y), h2 g2⟩
theorem FstR.post {α : Type} {p : α → Bool} {A B : List α} {hit' : List α → α → Prop} {K1 : List α} {x : α} {K2 : List α} {miss : Prop} (hA : A = K1 ++ x :: K2) (g1 : ∀ y ∈ K1, p y = false) (g2 : p x = true) (g3 : hit' K1 x) : FstR p (A ++ B) hit' miss :=
 .inl ⟨K1, x, K2 ++ B, by rw [hA]; simp, g1, g2, g3⟩
end Go.Proofs.YtggelmbnliajeaaGreatDoor
namespace Go.Proofs.YtggelmbnliajeaaGreatDoor
open Go.RowKit Go.Sort
theorem FstR.map {α β : Type} {g : α → β} {p : α → Bool} {p' : β → Bool} {K : List α} {hit : List α → α → Prop} {hit' : β → Prop} {miss miss' : Prop} (hp : ∀ y, p' (g y) = p y) (h : FstR p K hit miss) (h1 : ∀ K1 x, hit K1 x → hit' (g x)) (h2 : miss → miss') : FstR p' (K.map g) (fun _ x => hit' x) miss' := by
 rcases h with ⟨K1, x, K2, rfl, g1, g2, g3⟩ | ⟨g1, g2⟩
 ·refine .inl ⟨K1.map g, g x, K2.map g, by simp, fun y hy => ?_, by rw [hp]; exact g2, h1 _ _ g3⟩
  obtain ⟨z, hz, rfl⟩ := List.mem_map.1 hy
  rw [hp]; exact g1 z hz
 ·refine .inr ⟨fun y hy => ?_, h2 g2⟩
  obtain ⟨z, hz, rfl⟩ := List.mem_map.1 hy
  rw [hp]; exact g1 z hz
theorem FstR.idx {α : Type} {p : α → Bool} {K : List α} {hit : α → Prop} {miss : Prop} (h : FstR p K (fun _ x => hit x) miss) :
  (∃ i, ∃ h : i < K.length, p K[i] = true ∧ (∀ j (hj : j < i), p (K[j]'(by omega)) = false) ∧ hit K[i]) ∨ ((∀ j (h : j < K.length), p K[j] = false) ∧ miss) := by
 rcases h with ⟨K1, x, K2, rfl, g1, g2, g3⟩ | ⟨g1, g2⟩
 ·refine .inl ⟨K1.length, by simp, ?_, fun j hj => ?_, ?_⟩
  ·simpa using g2
  ·rw [List.getElem_append_left hj]
   exact g1 _ (List.getElem_mem hj)
  ·simpa using g3
 ·exact .inr ⟨fun j hj => g1 _ (List.getElem_mem hj), g2⟩
section
variable {t : Tpl} {ar : Int}
end
end Go.Proofs.YtggelmbnliajeaaGreatDoor
namespace Go.Proofs.YtggelmbnliajeaaGreatDoor
open Go.RowKit Go.Sort
section
variable {t : Tpl} {ar : Int} {ls : List (List Int)} {vs : List Int}
end
end Go.Proofs.YtggelmbnliajeaaGreatDoor
namespace Go.Proofs.YtggelmbnliajeaaGreatDoor
open Go.RowKit Go.Sort
section
variable {t : Tpl} {ar : Int} {ls : List (List Int)} {vs : List Int}
end
end Go.Proofs.YtggelmbnliajeaaGreatDoor
namespace Go.Proofs.YtggelmbnliajeaaGreatDoor
open Go.RowKit Go.Sort
end Go.Proofs.YtggelmbnliajeaaGreatDoor
namespace Go.Proofs.YtggelmbnliajeaaGreatDoor
open Go.RowKit Go.Sort
end Go.Proofs.YtggelmbnliajeaaGreatDoor
namespace Go.Proofs.YtggelmbnliajeaaGreatDoor
open Go.RowKit Go.Sort
section
variable {t : Tpl} {u : List (List Int)}
end
end Go.Proofs.YtggelmbnliajeaaGreatDoor
namespace Go.Proofs.YtggelmbnliajeaaGreatDoor
open Go.RowKit Go.Sort
end Go.Proofs.YtggelmbnliajeaaGreatDoor
namespace Go.Proofs.YtggelmbnliajeaaGreatDoor
open Go.RowKit Go.Sort
section
variable {t : Tpl} {u : List (List Int)} {k : Nat}
end
end Go.Proofs.YtggelmbnliajeaaGreatDoor
namespace Go.Proofs.YtggelmbnliajeaaGreatDoor
open Go.RowKit Go.Sort
theorem fr_rel0 {base : Nat} {w : World} : relT.Fr base w [.int .i64 0, .slice none 0 0] (0, []) := fr_cons (I64.small (by omega) (by omega)) fr_nil
end Go.Proofs.YtggelmbnliajeaaGreatDoor
namespace Go.Proofs.YtggelmbnliajeaaGreatDoor
open Go.RowKit Go.Sort
end Go.Proofs.YtggelmbnliajeaaGreatDoor
namespace Go.Proofs.YtggelmbnliajeaaGreatDoor
open Go.RowKit Go.Sort
end Go.Proofs.YtggelmbnliajeaaGreatDoor
namespace Go.Proofs.YtggelmbnliajeaaGreatDoor
open Go.RowKit Go.Sort
section
variable {t : Tpl} {ar : Nat}
end
end Go.Proofs.YtggelmbnliajeaaGreatDoor
namespace Go.Proofs.YtggelmbnliajeaaGreatDoor
open Go.RowKit Go.Sort
section
variable {t : Tpl} {u : List (List Int)}
end
end Go.Proofs.YtggelmbnliajeaaGreatDoor
namespace Go.Proofs.YtggelmbnliajeaaGreatDoor
open Go.RowKit Go.Sort
section
variable {t : Tpl} {u : List (List Int)}
end
end Go.Proofs.YtggelmbnliajeaaGreatDoor
namespace Go.Proofs.YtggelmbnliajeaaGreatDoor
open Go.RowKit Go.Sort
end Go.Proofs.YtggelmbnliajeaaGreatDoor
namespace Go.Proofs.YtggelmbnliajeaaGreatDoor
open Go.RowKit Go.Sort
abbrev RelV := Int × List (List Int)
section
variable {t : Tpl} {r : RelV}
end
end Go.Proofs.YtggelmbnliajeaaGreatDoor
namespace Go.Proofs.YtggelmbnliajeaaGreatDoor
open Go.RowKit Go.Sort
end Go.Proofs.YtggelmbnliajeaaGreatDoor
namespace Go.Proofs.YtggelmbnliajeaaGreatDoor
open Go.RowKit Go.Sort
section
variable {t : Tpl} {r : RelV}
end
end Go.Proofs.YtggelmbnliajeaaGreatDoor
namespace Go.Proofs.YtggelmbnliajeaaGreatDoor
open Go.RowKit Go.Sort
end Go.Proofs.YtggelmbnliajeaaGreatDoor
namespace Go.Proofs.YtggelmbnliajeaaGreatDoor
open Go.RowKit Go.Sort
section
variable {t : Tpl} {ar : Int}
end
end Go.Proofs.YtggelmbnliajeaaGreatDoor
namespace Go.Proofs.YtggelmbnliajeaaGreatDoor
open Go.RowKit Go.Sort
theorem ltL_irrefl {x : List Int} : ¬ ltL x x := by unfold ltL; rw [cmpL_self]; omega
theorem pw_ext : ∀ {xs ys : List (List Int)}, xs.Pairwise ltL → ys.Pairwise ltL → (∀ a, a ∈ xs ↔ a ∈ ys) → xs = ys
 | [], [], _, _, _ => rfl
 | [], y :: ys, _, _, h => absurd ((h y).2 (List.mem_cons_self ..)) (by simp)
 | x :: xs, [], _, _, h => absurd ((h x).1 (List.mem_cons_self ..)) (by simp)
 | x :: xs, y :: ys, hx, hy, h => by
  obtain ⟨x1, x2⟩ := List.pairwise_cons.1 hx
  obtain ⟨y1, y2⟩ := List.pairwise_cons.1 hy
  have e : x = y := by
   rcases List.mem_cons.1 ((h x).1 (List.mem_cons_self ..)) with e | e
   ·exact e
   ·rcases List.mem_cons.1 ((h y).2 (List.mem_cons_self ..)) with e' | e'
    ·exact e'.symm
    ·exact absurd (ltL_trans (y1 x e) (x1 y e')) ltL_irrefl
  subst e
  rw [pw_ext x2 y2 fun a => ⟨fun ha => ?_, fun ha => ?_⟩]
  ·rcases List.mem_cons.1 ((h a).1 (List.mem_cons_of_mem _ ha)) with e | e
   ·subst e; exact absurd (x1 _ ha) ltL_irrefl
   ·exact e
  ·rcases List.mem_cons.1 ((h a).2 (List.mem_cons_of_mem _ ha)) with e | e
   ·subst e; exact absurd (y1 _ ha) ltL_irrefl
   ·exact e
theorem sortedL_pw {xs : List (List Int)} (h : sortedL xs) : xs.Pairwise ltL := List.pairwise_iff_getElem.2 fun _ _ _ hj hij => sortedL_lt h hj hij
section
variable {t : Tpl} {r : RelV}
end
end Go.Proofs.YtggelmbnliajeaaGreatDoor
namespace Go.Proofs.YtggelmbnliajeaaGreatDoor
open Go.RowKit Go.Sort
/-- what operations make of tuples, and of what they make -/
inductive Clo (s : Int) (ops : List (Int × List Int)) (ar : Nat) (T : List (List Int)) : List Int → Prop
 | base {l : List Int} (h : l ∈ T) : Clo s ops ar T l
 | step {f : Int × List Int} {ts : List (List Int)} (hf : f ∈ ops) (hl : (ts.length : Int) = f.1) (h : ∀ l ∈ ts, Clo s ops ar T l) : Clo s ops ar T (madeL s f.2 ts ar)
def tupP (s : Int) (ar : Nat) (l : List Int) : Prop := l.length = ar ∧ ∀ a ∈ l, 0 ≤ a ∧ a ≤ s - 1
theorem madeL_in {s : Int} {f : Int × List Int} {ts : List (List Int)} {m : Nat} (hf : opOk s f) (ht : tupsOk s f.1 m ts) : tupP s m (madeL s f.2 ts m) := by
 refine ⟨madeL_len, fun a ha => ?_⟩
 obtain ⟨p, hp, rfl⟩ := List.mem_map.1 ha
 rw [madeV_op]
 have hp' : p < m := by simpa using hp
 exact opV_in hf (by rw [colL_len]; exact ht.1) (colL_in ht hp')
theorem clo_in {s : Int} {ops : List (Int × List Int)} {ar : Nat} {T : List (List Int)} (ho : ∀ f ∈ ops, opOk s f) (hT : ∀ l ∈ T, tupP s ar l) {l : List Int} (h : Clo s ops ar T l) : tupP s ar l := by
 induction h with
 | base h => exact hT _ h
 | step hf hl _ ih => exact madeL_in (ho _ hf) ⟨hl, fun l hl => ih l hl⟩
/-- all tuples for which something is so, in order -/
theorem relL_iff {s : Int} {ar N : Nat} {p : List Int → Bool} (hs : 1 ≤ s) (hN : s ^ ar = N) {l : List Int} (hl : tupP s ar l) : l ∈ relL s ar p N ↔ p l = true := by
 have hb := idx_lt hs hl.1 hl.2
 rw [hN] at hb
 have e := dig_of hs hl.1 hl.2
 have h := relL_mem (s := s) (n := ar) (N := N) (p := p) (k := (idxL s 0 l).toNat) (by omega)
 rw [show (((idxL s 0 l).toNat : Nat) : Int) = idxL s 0 l by omega, e] at h
 rw [← h, tb_iff]
theorem relL_tup {s : Int} {ar N : Nat} {p : List Int → Bool} (hs : 1 ≤ s) {l : List Int} (h : l ∈ relL s ar p N) : tupP s ar l := by
 obtain ⟨h1, -⟩ := List.mem_filter.1 h
 obtain ⟨k, -, rfl⟩ := List.mem_map.1 h1
 exact ⟨digL_len, digL_in hs⟩
theorem relL_ok {s : Int} {ar N : Nat} {p : List Int → Bool} (hs : sizeOk s) (har : 1 ≤ ar ∧ ar ≤ 4) (hN : s ^ ar = N) : relOk s ((ar : Int), relL s ar p N) := by
 have h1 := hs.1
 refine ⟨hs, ⟨by show (1 : Int) ≤ ar; omega, by show (ar : Int) ≤ 4; omega⟩, fun i hi => ⟨?_, relL_sorted h1 hN i hi⟩⟩
 have := relL_tup h1 (List.getElem_mem hi)
 exact ⟨by show ((_ : Nat) : Int) = (ar : Int); rw [this.1], this.2⟩
theorem relL_sub {s : Int} {ar N : Nat} {p q : List Int → Bool} (h : ∀ l, p l = true → q l = true) : (relL s ar p N).Sublist (relL s ar q N) := by
 unfold relL
 generalize (List.range N).map (fun i : Nat => digL s i ar) = L
 induction L with
 | nil => exact List.Sublist.refl _
 | cons a L ih =>
  cases hp : p a
  ·rw [List.filter_cons_of_neg (by simp [hp])]
   cases hq : q a
   ·rw [List.filter_cons_of_neg (by simp [hq])]; exact ih
   ·rw [List.filter_cons_of_pos hq]; exact ih.cons _
  ·rw [List.filter_cons_of_pos hp, List.filter_cons_of_pos (h a hp)]
   exact ih.cons_cons _
/-- the set as a relation -/
noncomputable def setR (s : Int) (ar N : Nat) (T : List (List Int)) : List (List Int) := relL s ar (fun l => tb (l ∈ T)) N
theorem setR_mem {s : Int} {ar N : Nat} {T : List (List Int)} (hs : 1 ≤ s) (hN : s ^ ar = N) (hT : ∀ l ∈ T, tupP s ar l) {l : List Int} : l ∈ setR s ar N T ↔ l ∈ T :=
 ⟨fun h => tb_iff.1 ((relL_iff hs hN (relL_tup hs h)).1 h), fun h => (relL_iff hs hN (hT l h)).2 (tb_true h)⟩
/-- an operation keeps a relation just if it makes a tuple of it of any tuples of it -/
theorem keeps_iff {s : Int} {f : Int × List Int} {ar : Nat} {R : List (List Int)} (hf : 1 ≤ f.1) : keepsP s f ((ar : Int), R) ↔ ∀ ts : List (List Int), (ts.length : Int) = f.1 → (∀ l ∈ ts, l ∈ R) → madeL s f.2 ts ar ∈ R := by
 constructor
 ·intro h ts hl hts
  have h0 : 0 < R.length := by
   cases ts with
   | nil => simp at hl; omega
   | cons a ts => exact List.length_pos_of_mem (hts a (List.mem_cons_self ..))
  obtain ⟨j, hj, hpj⟩ := picks_some (ts := R) (L := ts) hts h0
  have := h j (by rw [← hl, Int.toNat_natCast]; exact hj)
  unfold makes at this
  rw [← hl, Int.toNat_natCast] at this
  simp only [Int.toNat_natCast] at this
  rwa [hpj] at this
 ·intro h i hi
  have h0 : 0 < R.length := by
   rcases Nat.eq_zero_or_pos R.length with h | h
   ·have hi' : (i : Int) < (R.length : Int) ^ f.1.toNat := hi
    rw [h, show ((0 : Nat) : Int) = 0 from rfl, Int.zero_pow (by omega)] at hi'
    omega
   ·exact h
  have := h (picks R f.1.toNat i) (by rw [picks_len]; omega) (fun l hl => by
   obtain ⟨k, hk, rfl⟩ := List.mem_map.1 hl
   obtain ⟨k1, k2⟩ := dig_mem (by omega) hk
   have hkl : k.toNat < R.length := by omega
   rw [List.getD_eq_getElem?_getD, List.getElem?_eq_getElem hkl]
   exact List.getElem_mem hkl)
  unfold makes
  simpa using this
/-- a relation that is closed, and lies in the closure of what lies in it, is the closure -/
theorem clo_closed {s : Int} {ops : List (Int × List Int)} {ar : Nat} {T R : List (List Int)} (ho : ∀ f ∈ ops, opOk s f) (h1 : ∀ l ∈ T, l ∈ R) (h2 : ∀ l ∈ R, Clo s ops ar T l) (h3 : ∀ f ∈ ops, keepsP s f ((ar : Int), R)) {l : List Int} : l ∈ R ↔ Clo s ops ar T l := by
 refine ⟨h2 l, fun h => ?_⟩
 induction h with
 | base h => exact h1 _ h
 | step hf hl _ ih => exact (keeps_iff (ho _ hf).2.1.1).1 (h3 _ hf) _ hl ih
/-- a round that adds nothing: all is closed -/
theorem round_end {s : Int} {ops : List (Int × List Int)} {ar N : Nat} {T0 T : List (List Int)} (hs : 1 ≤ s) (hN : s ^ ar = N) (hT : ∀ l ∈ T, tupP s ar l) (hsub : ∀ l ∈ T0, l ∈ T)
  (hall : ∀ f ∈ ops, ∀ k : Nat, (k : Int) < ((setR s ar N T0).length : Int) ^ f.1.toNat → makes s f ((ar : Int), setR s ar N T0) k ∈ T) (hlen : (setR s ar N T).length = (setR s ar N T0).length) :
  setR s ar N T = setR s ar N T0 ∧ ∀ f ∈ ops, keepsP s f ((ar : Int), setR s ar N T) := by
 have e : setR s ar N T0 = setR s ar N T := (relL_sub (fun l h => tb_true (hsub l (tb_iff.1 h)))).eq_of_length hlen.symm
 refine ⟨e.symm, fun f hf k hk => ?_⟩
 rw [← e] at hk ⊢
 rw [e]
 rw [setR_mem hs hN hT, ← e]
 exact hall f hf k hk
theorem round_more {s : Int} {ar N : Nat} {T0 T : List (List Int)} (hsub : ∀ l ∈ T0, l ∈ T) : (setR s ar N T0).length ≤ (setR s ar N T).length ∧ (setR s ar N T).length ≤ N :=
 ⟨(relL_sub (fun l h => tb_true (hsub l (tb_iff.1 h)))).length_le, relL_len⟩
end Go.Proofs.YtggelmbnliajeaaGreatDoor
namespace Go.Proofs.YtggelmbnliajeaaGreatDoor
open Go.RowKit Go.Sort
theorem pairs_exPb {ok : Nat → Prop} {w : World} {u : Value} {xs : List (Int × List Int)} (h : opsT.RdP ok w [u] xs) :
  ∃ ad cap, u = .slice ad xs.length cap ∧ xs.length ≤ 140737488351232 ∧ (0 < xs.length → ∃ b o, ad = some ⟨b, o, none⟩ ∧ b < w.heap.size ∧ ok b ∧ ∀ i (h : i < xs.length), w.cell? ⟨b, o + i * 2, none⟩ = some (.int .i64 xs[i].1)) := by
 obtain ⟨ad, cap, h1, h2, h3, h4⟩ := slice_exP h
 refine ⟨ad, cap, by simpa using h1, h3, fun hp => ?_⟩
 obtain ⟨b, o, h5, h6, hok, h7⟩ := h4 hp
 refine ⟨b, o, h5, h6, hok, fun i hi => ?_⟩
 obtain ⟨cs, ⟨fp, ⟨cs', rfl, hI, h8⟩, hf⟩, h10⟩ := h7 i hi
 have h11 := h10 0 (by simp)
 rw [List.getElem_cons_zero] at h11
 simpa [Ty.slice, Ty.cons] using h11
/-- between some tuples and their closure -/
def Mid (s : Int) (ops : List (Int × List Int)) (ar : Nat) (T0 T : List (List Int)) : Prop := (∀ l ∈ T, tupP s ar l) ∧ (∀ l ∈ T0, l ∈ T) ∧ ∀ l ∈ T, Clo s ops ar T0 l
theorem Mid.add {s : Int} {ops : List (Int × List Int)} {ar : Nat} {T0 T : List (List Int)} (h : Mid s ops ar T0 T) {l : List Int} (h1 : tupP s ar l) (h2 : Clo s ops ar T0 l) : Mid s ops ar T0 (T ++ [l]) :=
 ⟨fun x hx => (List.mem_append.1 hx).elim (h.1 x) (fun h => by rw [List.mem_singleton.1 h]; exact h1), fun x hx => List.mem_append_left _ (h.2.1 x hx), fun x hx => (List.mem_append.1 hx).elim (h.2.2 x) (fun h => by rw [List.mem_singleton.1 h]; exact h2)⟩
/-- a relation of the tuples in the closure -/
def CloR (s : Int) (ops : List (Int × List Int)) (ar : Nat) (T0 : List (List Int)) (g : Nat) (w : World) (e : Ending) (w' : World) : Prop :=
 ∃ (cs : List Value) (M : List (List Int)), e = .returned (.agg cs.toArray) ∧ relT.Fr w.heap.size w' cs ((ar : Int), M) ∧ relOk s ((ar : Int), M) ∧ (∀ l, l ∈ M ↔ Clo s ops ar T0 l) ∧ TchP (fun q => q = g) w w'
set_option maxHeartbeats 6400000 in
set_option maxRecDepth 100000 in
theorem l02Closure_any (w : World) {base bx g ar N : Nat} {s : Int} {T0 : List (List Int)} (h : Set3 w base bx g s ar N T0) (hs : sizeOk s) (har : 1 ≤ ar ∧ ar ≤ 4) (hN : s ^ ar = N) (hT0 : ∀ l ∈ T0, tupP s ar l) {v : Value} {ops : List (Int × List Int)} (hv : opsT.RdP (fun q => q ≠ g) w [v] ops) (ho : ∀ f ∈ ops, opOk s f) :
  Calls Tryz.prog 39 #[.int .i64 s, v, .pointer (some ⟨bx, 0, none⟩)] w (CloR s ops ar T0 g w) := by
 have hs4 := hs
 unfold sizeOk at hs4
 have hgw := h.1.2.2.2.2.lt
 have hbg : g ≠ bx := h.1.2.2.1
 have hbx := h.1.2.1
 have hN256 : N ≤ 256 := by
  have h1 : s ^ ar ≤ 256 := by
   refine Int.le_trans (pow_mono' (by omega) (show s ≤ 4 by omega) ar) ?_
   rcases (show ar = 1 ∨ ar = 2 ∨ ar = 3 ∨ ar = 4 by omega) with e | e | e | e <;> rw [e] <;> decide
  omega
 obtain ⟨oad, ocap, hvv, hol, hoc⟩ := pairs_exPb hv
 have HOPS : Hid (∀ X, TchP (fun q => q = g) w X → opsT.RdP (fun q => q ≠ g) X [v] ops) := fun X hX => hv.tchP hX (fun k _ h1 h2 => h1 h2)
 subst hvv
 have HSET := Lib.hid h
 have HN := Lib.hid hN
 have HT0 := Lib.hid hT0
 have HO := Lib.hid ho
 have HS := Lib.hid hs
 have HOC := Lib.hid hoc
 have hrl : ∀ T, (setR s ar N T).length ≤ N := fun T => relL_len
 have HRL := Lib.hid hrl
 clear h hN hT0 hv ho hs hoc hrl
 go_enter Tryz.func39, Tryz.ntmps39
 go_wp2_with fail
 generalize hW : World.alloc w _ = W
 have hbW : Below w.heap.size w W := hW ▸ bA
 have hsW : W.heap.size = w.heap.size + 1 := by rw [← hW]; simp
 have r0 : W.cell? ⟨w.heap.size, 0, none⟩ = some (.int .i64 0) := by rw [← hW]; simp [go_sem]
 have r1 : W.cell? ⟨w.heap.size, 1, none⟩ = some (.slice none 0 0) := by rw [← hW]; simp [go_sem]
 have r2 : W.frozen? ⟨w.heap.size, 0, none⟩ = false := by rw [← hW]; simp [go_sem]
 have r3 : W.frozen? ⟨w.heap.size, 1, none⟩ = false := by rw [← hW]; simp [go_sem]
 clear hW
 have HS0 : Hid (Set3 W base bx g s ar N T0) := HSET.out.below hbW (Nat.le_refl _)
 have HTW : Hid (TchP (fun q => q = g) w W) := TchP.of_below hbW _
 have HM0 : Hid (Mid s ops ar T0 T0) := ⟨HT0.out, fun _ h => h, fun _ h => .base h⟩
 clear HSET
 go_loopg [] N (fun gm wr => ∃ T : List (List Int), Set3 wr base bx g s ar N T ∧ Mid s ops ar T0 T ∧ TchP (fun q => q = g) W wr ∧ N - (setR s ar N T).length ≤ gm)
 case atStart => exact ⟨T0, HS0.out, HM0.out, TchP.refl _ _, by omega⟩
 case round =>
  obtain ⟨T, hS, hM, hT, hgm⟩ := hrel
  obtain ⟨wv, rfl⟩ : ∃ wv : World, wv = wr := ⟨_, rfl⟩
  have HS1 := Lib.hid hS
  have HM1 := Lib.hid hM
  have HT1 := Lib.hid hT
  have hzv := hT.size
  clear hS hM hT HS0 HM0
  go_wp2_with fail
  refine (rel_any wv HS1.out hs4 (by omega) HN.out (by omega) (fun l hl => HM1.out.1 l hl)).mono ?_
  rintro e w1 ⟨cs, rfl, hf, hb1⟩
  obtain ⟨R, hR⟩ : ∃ R, R = setR s ar N T := ⟨_, rfl⟩
  change relT.Fr wv.heap.size w1 cs ((ar : Int), setR s ar N T) at hf
  rw [← hR] at hf hgm
  have hRN : R.length ≤ N := by rw [hR]; exact HRL.out T
  have HR := Lib.hid hR
  obtain ⟨a1, c1, rfl⟩ := fr_pair hf
  have hROK : relOk s ((ar : Int), R) := by rw [hR]; exact relL_ok HS.out har HN.out
  have HROK := Lib.hid hROK
  have hz1 := hb1.size
  have HRP : Hid (rowsT.RdP (fun q => wv.heap.size ≤ q) w1 [.slice a1 R.length c1] R) := by
   obtain ⟨fp, hfp, -, hge, -⟩ := hf
   obtain ⟨cs', he, -, h3⟩ := hfp
   simp only [List.cons.injEq, true_and] at he
   rw [← he] at h3
   exact ⟨fp, h3, hge⟩
  clear hf hR hROK
  go_wp2_with fail
  generalize hWb : World.alloc w1 _ = wb
  have hbb : Below w1.heap.size w1 wb := hWb ▸ bA
  have hsb : wb.heap.size = w1.heap.size + 1 := by rw [← hWb]; simp
  have b0 : wb.cell? ⟨w1.heap.size, 0, none⟩ = some (.int .i64 (ar : Int)) := by rw [← hWb]; simp [go_sem]
  have b1 : wb.cell? ⟨w1.heap.size, 1, none⟩ = some (.slice a1 R.length c1) := by rw [← hWb]; simp [go_sem]
  have b2 : wb.frozen? ⟨w1.heap.size, 0, none⟩ = false := by rw [← hWb]; simp [go_sem]
  have b3 : wb.frozen? ⟨w1.heap.size, 1, none⟩ = false := by rw [← hWb]; simp [go_sem]
  clear hWb
  have hbvb : Below wv.heap.size wv wb := bthen hb1 hbb
  have HSb : Hid (Set3 wb base bx g s ar N T) := HS1.out.below hbvb (Nat.le_refl _)
  have HRb : Hid (rowsT.RdP (fun q => wv.heap.size ≤ q) wb [.slice a1 R.length c1] R) := HRP.out.below hbb
  have HTb : Hid (TchP (fun q => q = g) w wb) := (HTW.out.then HT1.out (fun _ _ h => h)).then (TchP.of_below hbvb _) (fun _ _ h => h)
  have hgv : g < wv.heap.size := by omega
  clear HS1 HRP hbb hb1
  go_loopw [9] (fun i wr => ∃ (ii : Nat) (T' : List (List Int)), ii ≤ ops.length ∧ i = .int .i64 ii ∧ Set3 wr base bx g s ar N T' ∧ Mid s ops ar T0 T' ∧ (∀ l ∈ T, l ∈ T') ∧ (∀ j (hj : j < ops.length), j < ii → ∀ k : Nat, (k : Int) < (R.length : Int) ^ (ops[j]).1.toNat → makes s ops[j] ((ar : Int), R) k ∈ T') ∧ TchP (fun q => q = g) wb wr) (fun i _ => ops.length - (intOf i).toNat)
  case atStart => exact ⟨0, T, Nat.zero_le _, rfl, HSb.out, HM1.out, fun _ h => h, fun j hj h => absurd h (Nat.not_lt_zero _), TchP.refl _ _⟩
  case round =>
   obtain ⟨ii, T1, hii, rfl, hS2, hM2, hsub2, hdone, hT2⟩ := hrel
   obtain ⟨wq, rfl⟩ : ∃ wq : World, wq = wr := ⟨_, rfl⟩
   have HS2 := Lib.hid hS2
   have HM2 := Lib.hid hM2
   have HSUB2 := Lib.hid hsub2
   have HDONE := Lib.hid hdone
   have HT2 := Lib.hid hT2
   have hzq := hT2.size
   have d0 := (hT2.cell (i := 0) (b := w1.heap.size) (by omega) (by omega)).trans b0
   have d1 := (hT2.cell (i := 1) (b := w1.heap.size) (by omega) (by omega)).trans b1
   have d2 := (hT2.frozen (i := 0) (b := w1.heap.size) (by omega) (by omega)).trans b2
   have d3 := (hT2.frozen (i := 1) (b := w1.heap.size) (by omega) (by omega)).trans b3
   have HTQ : Hid (TchP (fun q => q = g) w wq) := HTb.out.then hT2 (fun _ _ h => h)
   clear hS2 hM2 hsub2 hdone hT2
   by_cases hil : ii < ops.length
   ·obtain ⟨ob, oo, rfl, hob, hobg, hoc⟩ := HOC.out (by omega)
    have e0 := (HTQ.out.cell hob hobg).trans (hoc ii hil)
    have hfo : opOk s ops[ii] := HO.out _ (List.getElem_mem hil)
    have haf := hfo.2.1
    obtain ⟨af, haf2⟩ : ∃ af : Nat, (ops[ii]).1 = (af : Int) := ⟨(ops[ii]).1.toNat, by omega⟩
    have hafn : (ops[ii]).1.toNat = af := by omega
    have haf3 : 1 ≤ af ∧ af ≤ 3 := by omega
    rw [haf2] at e0
    have HMEM := Lib.hid (List.getElem_mem hil)
    have HPT : Hid (∀ X, TchP (fun q => q = g) w X → opT.Pt X (.pointer (some ⟨ob, oo + ii * 2, none⟩)) ops[ii]) := fun X hX => pt_elem (E := opT) (HOPS.out X hX).rd hil
    have HDN : Hid (∀ T'' : List (List Int), (∀ l ∈ T1, l ∈ T'') → (∀ k : Nat, (k : Int) < (R.length : Int) ^ af → makes s ops[ii] ((ar : Int), R) k ∈ T'') → ∀ j (hj : j < ops.length), j < ii + 1 → ∀ k : Nat, (k : Int) < (R.length : Int) ^ (ops[j]).1.toNat → makes s ops[j] ((ar : Int), R) k ∈ T'') := fun T'' h1 h2 j hj hlt k hk => by
     by_cases e : j = ii
     ·subst e; rw [hafn] at hk; exact h2 k hk
     ·exact h1 _ (HDONE.out j hj (by omega) k hk)
    have HFO := Lib.hid hfo
    have HAF := Lib.hid haf2
    have HAFN := Lib.hid hafn
    generalize ops[ii] = f at HFO HAF HAFN HMEM HPT HDN
    obtain ⟨Mf, hMf⟩ : ∃ Mf : Nat, (R.length : Int) ^ af = (Mf : Int) := ⟨((R.length : Int) ^ af).toNat, by have := pow_nn (s := (R.length : Int)) (by omega) af; omega⟩
    have HMF := Lib.hid hMf
    have hMle : (Mf : Int) ≤ 1000000000000000 := by rw [← hMf]; exact pow_le (by omega) (by omega) (by omega)
    have HR0 : Hid (0 < Mf → 0 < R.length) := fun h => by
     rcases Nat.eq_zero_or_pos R.length with h0 | h0
     ·rw [h0, show af = (af - 1) + 1 by omega, Int.pow_succ] at hMf
      simp at hMf
      omega
     ·exact h0
    clear hfo haf haf2 hafn hMf HDONE hoc
    go_wp2_with fail
    refine (l01Power_any _ (R.length : Int) (af : Int) (by omega) (by omega) (by omega)).mono ?_
    rintro e _ ⟨rfl, rfl⟩
    rw [Int.toNat_natCast, HMF.out]
    clear e0
    go_wp2_with fail
    go_loopw [12] (fun i wr => ∃ (k : Nat) (T'' : List (List Int)), k ≤ Mf ∧ i = .int .i64 k ∧ Set3 wr base bx g s ar N T'' ∧ Mid s ops ar T0 T'' ∧ (∀ l ∈ T1, l ∈ T'') ∧ (∀ k' : Nat, k' < k → makes s f ((ar : Int), R) k' ∈ T'') ∧ TchP (fun q => q = g) wq wr) (fun i _ => Mf - (intOf i).toNat)
    case atStart => exact ⟨0, T1, Nat.zero_le _, rfl, HS2.out, HM2.out, fun _ h => h, fun _ h => absurd h (Nat.not_lt_zero _), TchP.refl _ _⟩
    case round =>
     obtain ⟨k, T2, hk, rfl, hS3, hM3, hsub3, hkd, hT3⟩ := hrel
     obtain ⟨wp, rfl⟩ : ∃ wp : World, wp = wr := ⟨_, rfl⟩
     have HS3 := Lib.hid hS3
     have HM3 := Lib.hid hM3
     have HSUB3 := Lib.hid hsub3
     have HKD := Lib.hid hkd
     have HT3 := Lib.hid hT3
     have hzp := hT3.size
     have d1' := (hT3.cell (i := 1) (b := w1.heap.size) (by omega) (by omega)).trans d1
     have HTP : Hid (TchP (fun q => q = g) w wp) := HTQ.out.then hT3 (fun _ _ h => h)
     clear hS3 hM3 hsub3 hkd hT3
     by_cases hkl : k < Mf
     ·have h0 : 0 < R.length := HR0.out (by omega)
      have e0 : wp.cell? ⟨ob, oo + ii * 2, none⟩ = some (.int .i64 (af : Int)) := by
       have hp := HPT.out wp HTP.out
       obtain ⟨_, _, _, _, hpv, -, -, hp0, -⟩ := pt_pair hp
       simp only [Value.pointer.injEq, Option.some.injEq, Addr.mk.injEq, and_true] at hpv
       rw [← hpv.1, ← hpv.2, HAF.out] at hp0
       exact hp0
      go_wp2_with fail
      refine (l01Digits_any _ (R.length : Int) (k : Int) af (by omega) (by omega) (by omega) (by omega) (by omega)).mono ?_
      rintro e w2 ⟨u, rfl, hfr, hb2⟩
      obtain ⟨dad, dcap, hdv, -, -, hdc⟩ := ints_ex hfr.rd
      obtain rfl : u = _ := by simpa using hdv
      obtain ⟨db, dof, rfl, hdb, hdce⟩ := hdc (by rw [digL_len]; omega)
      rw [digL_len]
      have HDC := Lib.hid hdce
      have hz2 := hb2.size
      have HT2w : Hid (TchP (fun q => q = g) w w2) := HTP.out.then (TchP.of_below hb2 _) (fun _ _ h => h)
      have dd1 := (cellB hb2 (show w1.heap.size < wp.heap.size by omega)).trans d1'
      have HR2 : Hid (rowsT.RdP (fun q => wv.heap.size ≤ q) w2 [.slice a1 R.length c1] R) := ((HRb.out.tchP (HT2.out.then HT3.out (fun _ _ h => h)) (fun q _ h1 h2 => by omega)).below hb2)
      have HS4 : Hid (Set3 w2 base bx g s ar N T2) := HS3.out.below hb2 (Nat.le_refl _)
      obtain ⟨ra, rcp, hrv, -, -, hrc⟩ := slices_ex HR2.out.rd
      obtain ⟨rfl, rfl⟩ : a1 = ra ∧ c1 = rcp := by simpa using hrv
      obtain ⟨rb, ro, rfl, hrb, hrc⟩ := hrc h0
      have HRC := Lib.hid hrc
      clear hdv hdc hdce hfr e0 hrv hrc HS3
      go_wp2_with fail
      go_loopw [15, 14] (fun i q wr => ∃ (j : Nat) (vs : List Value), j ≤ af ∧ i = .int .i64 j ∧ vs.length = j ∧ picked w2 vs (picks R af k) ∧ Bl Ty.val 42 w2.heap.size wr.heap.size wr q vs ∧ Below w2.heap.size w2 wr) (fun i _ _ => af - (intOf i).toNat)
      case atStart => exact ⟨0, [], Nat.zero_le _, rfl, rfl, picked_nil, by simpa using Bl.lit0 (E := Ty.val) (e := 42) (w := w2) (Nat.le_refl _), bA⟩
      case round =>
       obtain ⟨j, vs, hj, rfl, hvl, hpk, hBl, hb3⟩ := hrel
       obtain ⟨wz', rfl⟩ : ∃ wz' : World, wz' = wr := ⟨_, rfl⟩
       have HB := Lib.hid hBl
       have HVL := Lib.hid hvl
       have HPK := Lib.hid hpk
       have hz3 := hb3.size
       clear hBl hvl hpk
       by_cases hjl : j < af
       ·have hjd : j < (digL (R.length : Int) k af).length := by rw [digL_len]; exact hjl
        have hdm := dig_mem (n := (R.length : Int)) (i := (k : Int)) (ar := af) (by omega) (List.getElem_mem hjd)
        obtain ⟨dn, hdn⟩ : ∃ dn : Nat, (digL (R.length : Int) k af)[j] = (dn : Int) := ⟨((digL (R.length : Int) k af)[j]).toNat, by omega⟩
        have hdl : dn < R.length := by omega
        have hDC0 := (HDC.out j hjd).2
        rw [hdn] at hDC0
        have e0 := (hb3.cell hdb).trans hDC0
        obtain ⟨u, hu, hcu⟩ := HRC.out dn hdl
        obtain ⟨ua, un, uc, rfl⟩ := rd_sl hu
        have l1 : w1.heap.size < w2.heap.size := by omega
        have e1 := (hb3.cell (p := ⟨w1.heap.size, 1, none⟩) l1).trans dd1
        have e2 := (hb3.cell hrb).trans hcu
        have HPN : Hid (picked w2 (vs ++ [.slice ua un uc]) (picks R af k)) := by
         have hl : j < (picks R af k).length := by rw [picks_len]; exact hjl
         have hg := picks_get hjd hdn hdl hl
         have hv := HVL.out
         subst hv
         exact picked_snoc HPK.out hl (by rw [hg]; exact hu)
        have hvj : vs.length ≤ 1000000000 := by rw [HVL.out]; omega
        have HE0 := Lib.hid ((hDC0 : w2.cell? ⟨db, dof + j, none⟩ = some (.int .i64 (dn : Int))))
        have HE1 := Lib.hid dd1
        have HE2 := Lib.hid hcu
        clear hdm hdn hu hcu hDC0
        go_wp2_with fail
        refine wp_region_T (fun w' => w'.cell? ⟨w1.heap.size, 1, none⟩ = some (.slice (some ⟨rb, ro, none⟩) R.length c1) ∧ w'.cell? ⟨db, dof + j, none⟩ = some (.int .i64 (dn : Int)) ∧ w'.cell? ⟨rb, ro + dn, none⟩ = some (.slice ua un uc)) [10, 11] (by kernel_rfl) ⟨e1, e0, e2⟩ (fun hHeld => ?_)
        refine wpAnyT_take (i := 0) (v := ?_) rfl (by kernel_rfl) (fun _ _ _ h => h) (Or.inl ⟨by rfl, ?_⟩) (by assumption) ?_
        rotate_left
        ·(intro w hSw; (try dsimp only at hSw); go_simp <;> with_reducible rfl)
        go_simp
        refine wpAnyT_take (i := 1) (v := ?_) rfl (by kernel_rfl) (fun _ _ _ h => h) (Or.inl ⟨by rfl, ?_⟩) (by assumption) ?_
        rotate_left
        ·(intro w hSw; (try dsimp only at hSw); go_simp <;> with_reducible rfl)
        go_simp
        refine wpAnyT_take (i := 2) (v := ?_) rfl (by kernel_rfl) (fun _ _ _ h => h) (Or.inl ⟨by rfl, ?_⟩) (by assumption) ?_
        rotate_left
        ·(intro w hSw; (try dsimp only at hSw); go_simp <;> with_reducible rfl)
        go_simp
        refine wpAnyT_take (i := 3) (v := ?_) rfl (by kernel_rfl) (fun _ _ _ h => h) (Or.inl ⟨by rfl, ?_⟩) (by assumption) ?_
        rotate_left
        ·(intro w hSw; (try dsimp only at hSw); go_simp <;> with_reducible rfl)
        go_simp
        refine wpAnyT_take (i := 4) (v := ?_) rfl (by kernel_rfl) (fun _ _ _ h => h) (Or.inl ⟨by rfl, ?_⟩) (by assumption) ?_
        rotate_left
        ·(intro w hSw; (try dsimp only at hSw); go_simp <;> with_reducible rfl)
        go_simp
        refine wpAnyT_take (i := 5) (v := ?_) rfl (by kernel_rfl) (fun _ _ _ h => h) (Or.inl ⟨by rfl, ?_⟩) (by assumption) ?_
        rotate_left
        ·(intro w hSw; (try dsimp only at hSw); go_simp <;> with_reducible rfl)
        go_simp
        refine wpAnyT_take (i := 6) (v := ?_) rfl (by kernel_rfl) (fun _ _ _ h => h) (Or.inl ⟨by rfl, ?_⟩) (by assumption) ?_
        rotate_left
        ·(intro w hSw; (try dsimp only at hSw); go_simp <;> with_reducible rfl)
        go_simp
        refine wpAnyT_take (i := 7) (v := ?_) rfl (by kernel_rfl) (fun _ _ _ h => h) (Or.inl ⟨by rfl, ?_⟩) (by assumption) ?_
        rotate_left
        ·(intro w hSw; (try dsimp only at hSw); go_simp <;> with_reducible rfl)
        go_simp
        refine wpAnyT_take (i := 8) (v := ?_) rfl (by kernel_rfl) (fun _ _ _ h => h) (Or.inl ⟨by rfl, ?_⟩) (by assumption) ?_
        rotate_left
        ·(intro w hSw; (try dsimp only at hSw); go_simp <;> with_reducible rfl)
        go_simp
        refine wpAnyT_one (i := 9) rfl (by kernel_rfl) (fun K hK => ?_)
        go_simp
        refine hK.out _ _ ⟨by go_keep, by go_keep, by go_keep⟩ (fun hHeld => ?_)
        clear hK K
        refine wpAnyT_last (i := 10) rfl (by kernel_rfl) (by kernel_rfl) (fun K hK => ?_)
        refine step_push (E := Ty.val) _ rfl _ _ 23 42 rfl elInt64SS rfl (HB.out.below (bD.alloc (by simp) _) (Nat.le_refl _)) rfl news1 (fr_val rfl) hvj (by decide) hz3 (by simp) ?_
        intro v1 wz hB1 hg1 _
        have hbz : Below w2.heap.size w2 wz := (hb3.trans (((bD (w := wz')).alloc (by simp) _).mono hz3)).grown hg1 (by simp; omega) (fun q hq => HB.out.own hq)
        have HB1 := Lib.hid hB1
        clear hB1 hg1
        refine hK.out _ _ ?_
        clear hK K
        refine wpAnyT_last (i := 11) rfl (by kernel_rfl) (by kernel_rfl) (fun K hK => ?_)
        go_simp
        refine hK.out _ _ ?_
        clear hK K
        refine wpAnyT_done (by kernel_rfl) ?_ _
        go_simp
        go_wp2_with fail
        go_roundw
        case rel => exact ⟨j + 1, _, by omega, by go_num, by rw [List.length_append, HVL.out]; rfl, HPN.out, HB1.out, hbz⟩
        case measure => simp [intOf]; omega
       ·obtain rfl : j = af := by omega
        have hfv := HB.out.fr (by rw [HVL.out]; unfold capMax; omega)
        obtain ⟨lad, lcap, hqv, -, -, hlc⟩ := Ty.slice_ex hfv.rd
        simp only [List.cons.injEq, and_true] at hqv
        subst hqv
        have HLR := Lib.hid (rows_of_vals hfv.rd (by rw [HVL.out, picks_len]) (fun i h h' => (HPK.out.2 i h h').below hb3))
        rw [HVL.out] at HLR
        rw [HVL.out]
        clear hfv hlc
        have HTO := Lib.hid (picks_ok HROK.out HFO.out h0 (k : Int))
        rw [HAFN.out, show (((ar : Int), R) : Int × List (List Int)).1.toNat = ar by simp] at HTO
        have HT3w : Hid (TchP (fun q => q = g) w wz') := HT2w.out.then (TchP.of_below hb3 _) (fun _ _ h => h)
        go_wp2_with fail
        refine (l02Make_any _ (HPT.out wz' HT3w.out) HLR.out HFO.out HTO.out (by omega)).mono ?_
        rintro e w4 ⟨t, rfl, hft, hb4⟩
        obtain ⟨ta, tn, tc, rfl⟩ := rd_sl hft.rd
        have HTR := Lib.hid hft.rd
        have HMK : Hid (madeL s f.2 (picks R j k) ar = makes s f ((ar : Int), R) k) := by
         unfold Hid
         rw [makes, HAFN.out]
         simp only [Int.toNat_natCast]
        have HTI := Lib.hid (madeL_in HFO.out HTO.out)
        have HCL : Hid (Clo s ops ar T0 (madeL s f.2 (picks R j k) ar)) := .step HMEM.out (by rw [picks_len, HAF.out]) (fun l hl => by
         obtain ⟨z, hz, rfl⟩ := List.mem_map.1 hl
         obtain ⟨z1, z2⟩ := dig_mem (by omega) hz
         have hzl : z.toNat < R.length := by omega
         rw [List.getD_eq_getElem?_getD, List.getElem?_eq_getElem hzl]
         have hmr : R[z.toNat] ∈ R := List.getElem_mem hzl
         have hmr2 : R[z.toNat] ∈ setR s ar N T := by rw [← HR.out]; exact hmr
         exact HM1.out.2.2 _ ((setR_mem hs4.1 HN.out HM1.out.1).1 hmr2))
        have hb24 : Below w2.heap.size w2 w4 := hb3.trans (hb4.mono hz3)
        have HS5 : Hid (Set3 w4 base bx g s ar N T2) := HS4.out.below hb24 (Nat.le_refl _)
        have hz4 := hb4.size
        clear hft HS4
        go_wp2_with fail
        refine (put_any w4 HS5.out hs4 (by omega) HN.out HTR.out HTI.out.1 HTI.out.2).mono ?_
        rintro e w5 ⟨rfl, hS5, hT5⟩
        have HS6 := Lib.hid hS5
        have HT5 : Hid (TchP (fun q => q = g) wq w5) := ((HT3.out.then (TchP.of_below hb2 _) (fun _ _ h => h)).then (TchP.of_below (hb24.mono (Nat.le_refl _)) _) (fun _ _ h => h)).then hT5 (fun _ _ h => h)
        have HM6 := Lib.hid (HM3.out.add HTI.out HCL.out)
        rw [HMK.out] at HS6 HM6
        clear hS5 hT5
        go_wp2_with fail
        go_roundw
        case rel => exact ⟨k + 1, _, by omega, by go_num, HS6.out, HM6.out, fun l hl => List.mem_append_left _ (HSUB3.out l hl), fun k' hk' => by
         by_cases e : k' = k
         ·subst e; exact List.mem_append_right _ (List.mem_singleton.2 rfl)
         ·exact List.mem_append_left _ (HKD.out k' (by omega)), HT5.out⟩
        case measure => simp [intOf]; omega
     ·obtain rfl : k = Mf := by omega
      go_wp2_with fail
      go_roundw
      case rel => exact ⟨ii + 1, T2, by omega, by go_num, HS3.out, HM3.out, fun l hl => HSUB3.out l (HSUB2.out l hl), HDN.out T2 HSUB3.out (fun k' hk' => HKD.out k' (by rw [HMF.out] at hk'; omega)), HT2.out.then HT3.out (fun _ _ h => h)⟩
      case measure => simp [intOf]; omega
   ·obtain rfl : ii = ops.length := by omega
    go_wp2_with fail
    refine (rel_any wq HS2.out hs4 (by omega) HN.out (by omega) (fun l hl => HM2.out.1 l hl)).mono ?_
    rintro e w6 ⟨cs, rfl, hf, hb6⟩
    obtain ⟨R2, hR2⟩ : ∃ R2, R2 = setR s ar N T1 := ⟨_, rfl⟩
    change relT.Fr wq.heap.size w6 cs ((ar : Int), setR s ar N T1) at hf
    rw [← hR2] at hf
    have hRN2 : R2.length ≤ N := by rw [hR2]; exact HRL.out T1
    have HR2 := Lib.hid hR2
    obtain ⟨a6, c6, rfl⟩ := fr_pair hf
    have HF6 := Lib.hid hf
    have hz6 := hb6.size
    have hle : R.length ≤ R2.length := by
     rw [HR.out, hR2]
     exact (round_more HSUB2.out).1
    have HEND : Hid (R2.length = R.length → relOk s ((ar : Int), R2) ∧ ∀ l, l ∈ R2 ↔ Clo s ops ar T0 l) := fun he => by
     have hst : ∀ l, l ∈ R2 ↔ l ∈ T1 := fun l => by rw [HR2.out]; exact setR_mem hs4.1 HN.out HM2.out.1
     obtain ⟨g1, g2⟩ := round_end (ops := ops) hs4.1 HN.out HM2.out.1 HSUB2.out (fun f hf k hk => by
      obtain ⟨j, hj, rfl⟩ := List.mem_iff_getElem.1 hf
      rw [← HR.out] at hk ⊢
      exact HDONE.out j hj hj k hk) (by rw [← HR.out, ← HR2.out]; exact he)
     rw [← HR2.out] at g2
     exact ⟨by rw [HR2.out]; exact relL_ok HS.out har HN.out, fun l => clo_closed HO.out (fun l hl => (hst l).2 (HM2.out.2.1 l hl)) (fun l hl => HM2.out.2.2 l ((hst l).1 hl)) g2⟩
    clear hf hR2
    replace d0 := (cellB hb6 (show w1.heap.size < wq.heap.size by omega)).trans d0
    replace d1 := (cellB hb6 (show w1.heap.size < wq.heap.size by omega)).trans d1
    replace d2 := (frozenB hb6 (show w1.heap.size < wq.heap.size by omega)).trans d2
    replace d3 := (frozenB hb6 (show w1.heap.size < wq.heap.size by omega)).trans d3
    have HS6 : Hid (Set3 w6 base bx g s ar N T1) := HS2.out.below hb6 (Nat.le_refl _)
    have HT6 : Hid (TchP (fun q => q = g) w w6) := HTQ.out.then (TchP.of_below hb6 _) (fun _ _ h => h)
    have HT61 : Hid (TchP (fun q => q = g) W w6) := ((HT1.out.then (TchP.of_below hbvb _) (fun _ _ h => h)).then HT2.out (fun _ _ h => h)).then (TchP.of_below hb6 _) (fun _ _ h => h)
    clear HS2
    have hgw1 : w1.heap.size ≠ g := by omega
    have HST : ∀ x y : Value, TchP (fun q => q = w1.heap.size) w6 ((w6.setCell ⟨w1.heap.size, 0, none⟩ x).setCell ⟨w1.heap.size, 1, none⟩ y) := fun x y => (TchP.set (O := fun q => q = w1.heap.size) rfl).then (TchP.set (O := fun q => q = w1.heap.size) rfl) (fun _ _ h => h)
    have HSTH := Lib.hid HST
    clear HST
    cases hq : (((R2.length : Nat) : Int) == ((R.length : Nat) : Int))
    ·have hlt : R.length < R2.length := by
      have : ¬ ((R2.length : Int) = (R.length : Int)) := by simpa using hq
      omega
     have HSN := Lib.hid (HS6.out.tch (HSTH.out (.int .i64 (ar : Int)) (.slice a6 R2.length c6)) (by omega) (by omega))
     have HTN : Hid (TchP (fun q => q = g) W ((w6.setCell ⟨w1.heap.size, 0, none⟩ (.int .i64 (ar : Int))).setCell ⟨w1.heap.size, 1, none⟩ (.slice a6 R2.length c6))) := HT61.out.then (HSTH.out _ _) (fun k hk h => by omega)
     have HM7 : Hid (N - (setR s ar N T1).length ≤ N - R2.length) := by unfold Hid; rw [← HR2.out]; exact Nat.le_refl _
     go_wp2_with fail
     go_roundg (N - R2.length)
     case measure => omega
     case rel => exact ⟨T1, HSN.out, HM2.out, HTN.out, HM7.out⟩
    ·have heq : R2.length = R.length := by
      have : ((R2.length : Int) = (R.length : Int)) := by simpa using hq
      omega
     obtain ⟨hok, hmem⟩ := HEND.out heq
     have HOKE := Lib.hid hok
     have HMEME := Lib.hid hmem
     have q0 := (HT61.out.cell (b := w.heap.size) (i := 0) (by omega) (by omega)).trans r0
     have q1 := (HT61.out.cell (b := w.heap.size) (i := 1) (by omega) (by omega)).trans r1
     have q2 := (HT61.out.frozen (b := w.heap.size) (i := 0) (by omega) (by omega)).trans r2
     have q3 := (HT61.out.frozen (b := w.heap.size) (i := 1) (by omega) (by omega)).trans r3
     clear hok hmem heq
     obtain ⟨k0, k1⟩ := set2_cells (x := .int .i64 (ar : Int)) (y := .slice a6 R2.length c6) d0 d1
     have p0 := (World.cell?_setCell_other (w6.setCell ⟨w1.heap.size, 0, none⟩ (.int .i64 (ar : Int))) ⟨w1.heap.size, 1, none⟩ ⟨w.heap.size, 0, none⟩ (.slice a6 R2.length c6) (by first | (simp; done) | (simp; omega))).trans ((World.cell?_setCell_other w6 ⟨w1.heap.size, 0, none⟩ ⟨w.heap.size, 0, none⟩ (.int .i64 (ar : Int)) (by first | (simp; done) | (simp; omega))).trans q0)
     have p1 := (World.cell?_setCell_other (w6.setCell ⟨w1.heap.size, 0, none⟩ (.int .i64 (ar : Int))) ⟨w1.heap.size, 1, none⟩ ⟨w.heap.size, 1, none⟩ (.slice a6 R2.length c6) (by first | (simp; done) | (simp; omega))).trans ((World.cell?_setCell_other w6 ⟨w1.heap.size, 0, none⟩ ⟨w.heap.size, 1, none⟩ (.int .i64 (ar : Int)) (by first | (simp; done) | (simp; omega))).trans q1)
     go_wp2_with fail
     obtain ⟨g0, g1⟩ := set2_cells (x := .int .i64 (ar : Int)) (y := .slice a6 R2.length c6) p0 p1
     refine bodyPost_ret (v := .agg #[.int .i64 (ar : Int), .slice a6 R2.length c6]) (by simp [results, Tryz.results39, go_sem, g0, g1]) rfl ⟨[.int .i64 (ar : Int), .slice a6 R2.length c6], R2, rfl, ?_, HOKE.out, HMEME.out, ?_⟩
     ·exact (fr_set2 (fr_set2 HF6.out (by omega)) (by omega)).mono (by omega)
     ·exact ((HT6.out.then (HSTH.out _ _) (fun k hk h => by omega)).then (TchP.set (O := fun q => q = w.heap.size) rfl) (fun k hk h => by omega)).then (TchP.set (O := fun q => q = w.heap.size) rfl) (fun k hk h => by omega)
end Go.Proofs.YtggelmbnliajeaaGreatDoor
namespace Go.Proofs.YtggelmbnliajeaaGreatDoor
open Go.RowKit Go.Sort
noncomputable def opsB (s : Int) (gs : List (Int × List Int)) : Bool := tb (sizeOk s ∧ ∀ g ∈ gs, opOk s g)
theorem opsB_yes {s : Int} {gs : List (Int × List Int)} (h : opsB s gs = true) : sizeOk s ∧ ∀ g ∈ gs, opOk s g := tb_iff.1 h
noncomputable def tupsB (s ar : Int) (ts : List (List Int)) : Bool := tb ((1 ≤ ar ∧ ar ≤ 4) ∧ ∀ l ∈ ts, rowOk s ar l)
/-- the code of ClosureOf -/
noncomputable def coC (s ar : Int) (ops : List (Int × List Int)) (ts : List (List Int)) : Int := match opsB s ops with
 | false => 1
 | true => match decide (64 < ops.length) with
  | true => 3
  | false => match tupsB s ar ts with
   | false => 2
   | true => 0
noncomputable def cloL (s : Int) (ar : Nat) (ops : List (Int × List Int)) (ts : List (List Int)) : List (List Int) := relL s ar (fun l => tb (Clo s ops ar ts l)) (s ^ ar).toNat
/-- the relation of ClosureOf -/
noncomputable def coV (s ar : Int) (ops : List (Int × List Int)) (ts : List (List Int)) : Int × List (List Int) := match coC s ar ops ts == 0 with
 | true => (ar, cloL s ar.toNat ops ts)
 | false => (0, [])
theorem coC_ok {s ar : Int} {ops : List (Int × List Int)} {ts : List (List Int)} (h1 : opsB s ops = true) (h2 : decide (64 < ops.length) = false) (h3 : tupsB s ar ts = true) : coC s ar ops ts = 0 := by simp only [coC, h1, h2, h3]
theorem coC_no1 {s ar : Int} {ops : List (Int × List Int)} {ts : List (List Int)} (h1 : opsB s ops = false) : coC s ar ops ts = 1 := by simp only [coC, h1]
theorem coC_no2 {s ar : Int} {ops : List (Int × List Int)} {ts : List (List Int)} (h1 : opsB s ops = true) (h2 : decide (64 < ops.length) = true) : coC s ar ops ts = 3 := by simp only [coC, h1, h2]
theorem coC_no3 {s ar : Int} {ops : List (Int × List Int)} {ts : List (List Int)} (h1 : opsB s ops = true) (h2 : decide (64 < ops.length) = false) (h3 : tupsB s ar ts = false) : coC s ar ops ts = 2 := by simp only [coC, h1, h2, h3]
theorem coV_ok {s ar : Int} {ops : List (Int × List Int)} {ts : List (List Int)} (h : coC s ar ops ts = 0) : coV s ar ops ts = (ar, cloL s ar.toNat ops ts) := by simp [coV, h]
theorem coV_no {s ar : Int} {ops : List (Int × List Int)} {ts : List (List Int)} (h : coC s ar ops ts ≠ 0) : coV s ar ops ts = (0, []) := by
 have : (coC s ar ops ts == 0) = false := by simpa using h
 simp [coV, this]
/-- a row in order with the closure's members is the closure -/
theorem cloL_eq {s : Int} {ar : Nat} {ops : List (Int × List Int)} {ts M : List (List Int)} (hs : sizeOk s) (har : 1 ≤ ar ∧ ar ≤ 4) (ho : ∀ f ∈ ops, opOk s f) (ht : ∀ l ∈ ts, tupP s ar l) (hP : M.Pairwise ltL) (hM : ∀ l, l ∈ M ↔ Clo s ops ar ts l) : M = cloL s ar ops ts := by
 have h1 := hs.1
 have hN : s ^ ar = ((s ^ ar).toNat : Int) := by have := pow_nn (s := s) (by omega) ar; omega
 have hr := relL_ok (p := fun l => tb (Clo s ops ar ts l)) hs har hN
 refine pw_ext hP (sortedL_pw (relOk_sorted hr)) fun a => ?_
 rw [hM]
 constructor
 ·intro h
  exact (relL_iff h1 hN (clo_in ho ht h)).2 (tb_true h)
 ·intro h
  exact tb_iff.1 ((relL_iff h1 hN (relL_tup h1 h)).1 h)
theorem areOpsN_any (w : World) {v : Value} {gs : List (Int × List Int)} (h : opsT.Rd w [v] gs) (s : Int) :
  Calls Tryz.prog 43 #[.int .i64 s, v] w fun e w' => e = .returned (.bool (opsB s gs)) ∧ Below w.heap.size w w' := by
 obtain ⟨va, vc, rfl⟩ := rd_slice h
 have H := Lib.hid h
 clear h
 cases b1 : inB s 1 4
 ·have HO : Hid (opsB s gs = false) := tb_false fun hh => by have := inB_true.2 hh.1; rw [b1] at this; cases this
  go_enter Tryz.func43, Tryz.ntmps43
  go_wp2_with (go_at_call 98; refine (isSize_any _ _).mono ?_; rintro e w' ⟨rfl, rfl⟩; rw [b1])
  go_ret
  exact ⟨ret_bool HO.out.symm, (by repeat (first | exact Below.refl _ _ | exact bA | assumption | refine Below.setCell ?_ (by first | omega | (simp; try omega)) _ | refine Below.alloc ?_ (by first | omega | (simp; try omega)) _ | refine Below.drew ?_ | refine bDN ?_ | refine bthen ?_ (by assumption)))⟩
 ·have HO : Hid (opsB s gs = !(anyB (fun g => !tb (opOk s g)) gs)) := by
   unfold Hid opsB anyB
   rw [Bool.eq_iff_iff, tb_iff]
   simp only [List.any_eq_false, Bool.not_eq_eq_eq_not, Bool.not_true]
   constructor
   ·rintro ⟨-, h⟩ x hx
    simp [tb_true (h x hx)]
   ·intro h
    refine ⟨inB_true.1 b1, fun g hg => ?_⟩
    have := h g hg
    simpa [tb_iff] using this
  go_enter Tryz.func43, Tryz.ntmps43
  go_wp2_with (go_at_call 98; refine (isSize_any _ _).mono ?_; rintro e w' ⟨rfl, rfl⟩; rw [b1])
  have hbA : Below w.heap.size w (w.alloc (.cells #[.int .i64 s] 2)) := bA
  refine (ContainsFuncOp_any _ (H.out.below hbA) (fun g => !tb (opOk s g)) 100 #[.pointer (some ⟨w.heap.size, 0, none⟩)] (enters Tryz.func100 (by kernel_rfl) rfl) (Lib.hid (fun W' hW' k hk cs hcs => areOps1_any W' hcs ((cellB hW' (by simp)).trans (by simp [go_sem]))))).mono ?_
  rintro e w2 ⟨rfl, hb2⟩
  cases hany : anyB (fun g => !tb (opOk s g)) gs
  ·rw [hany] at HO
   go_wp2_with fail
   go_ret
   exact ⟨ret_bool HO.out.symm, bthen hbA hb2⟩
  ·rw [hany] at HO
   go_wp2_with fail
   go_ret
   exact ⟨ret_bool HO.out.symm, bthen hbA hb2⟩
set_option maxHeartbeats 800000 in
theorem l02All_any (w : World) {v : Value} {gs : List (Int × List Int)} (h : opsT.Rd w [v] gs) (s : Int) :
  Calls Tryz.prog 37 #[.int .i64 s, v] w fun e w' => e = .returned (.bool (opsB s gs)) ∧ Quiet w w' := by
 obtain ⟨_, _, e1, hle, hle2, hcell⟩ := pairs_ex h
 obtain rfl : v = _ := by simpa using e1
 have H := Lib.hid h
 clear h e1
 go_enter Tryz.func37, Tryz.ntmps37
 go_wp2_with fail
 go_loopw [5] (fun i wr => ∃ k : Nat, k ≤ gs.length ∧ i = .int .i64 k ∧ noneB (fun r => !tb (opOk s r)) (gs.take k) ∧ Quiet w wr) (fun i _ => gs.length - (intOf i).toNat)
 case atStart => exact ⟨0, Nat.zero_le _, rfl, noneB_zero _ _, Quiet.refl _⟩
 case round =>
  obtain ⟨k, hk, rfl, ht, hqw⟩ := hrel
  have HT := Lib.hid ht
  clear ht
  by_cases hkl : k < gs.length
  ·obtain ⟨a, q, rfl, haa, -⟩ := hcell (by omega)
   have p := (pt_elem (E := opT) H.out hkl).below hqw.below
   cases hr : tb (opOk s gs[k])
   ·go_wp2_with fail
    refine (l02Ok_quiet wr p s).mono ?_
    rintro e w2 ⟨rfl, hq2⟩
    rw [hr]
    go_wp2_with fail
    go_ret
    exact ⟨ret_bool (tb_false (fun hh => by have := tb_true (hh.2 _ (List.getElem_mem hkl)); rw [hr] at this; cases this)).symm, hqw.then hq2⟩
   ·go_wp2_with fail
    refine (l02Ok_quiet wr p s).mono ?_
    rintro e w2 ⟨rfl, hq2⟩
    rw [hr]
    go_wp2_with fail
    go_roundw
    case rel => exact ⟨k + 1, by omega, by go_num, noneB_succ hkl HT.out (by rw [hr]; rfl), hqw.then hq2⟩
    case measure => simp [intOf]; omega
  ·obtain rfl : k = gs.length := by omega
   have HALL := Lib.hid (noneB_all HT.out)
   cases hs : inB s 1 4
   ·go_wp2_with (go_at_call 75; refine (l01Size_any _ _).mono ?_; rintro e w' ⟨rfl, rfl⟩)
    go_ret
    exact ⟨ret_bool ((tb_false (fun hr => by have := inB_true.2 hr.1; rw [hs] at this; cases this)).symm), hqw⟩
   have HR : Hid (opsB s gs = true) := tb_true ⟨inB_true.1 hs, HALL.out⟩
   go_wp2_with (go_at_call 75; refine (l01Size_any _ _).mono ?_; rintro e w' ⟨rfl, rfl⟩)
   go_ret
   exact ⟨ret_bool HR.out.symm, hqw⟩
end Go.Proofs.YtggelmbnliajeaaGreatDoor
namespace Go.Proofs.YtggelmbnliajeaaGreatDoor
open Go.RowKit Go.Sort
noncomputable def mrC (s ar : Int) (ts : List (List Int)) : Int := match tupsB s ar ts with
 | true => 0
 | false => 2
noncomputable def mrV (s ar : Int) (ts : List (List Int)) : Int × List (List Int) := match tupsB s ar ts with
 | true => (ar, setR s ar.toNat (s ^ ar.toNat).toNat ts)
 | false => (0, [])
theorem mr_yes {s ar : Int} {ts : List (List Int)} (h : tupsB s ar ts = true) : mrV s ar ts = (ar, setR s ar.toNat (s ^ ar.toNat).toNat ts) ∧ mrC s ar ts = 0 := by simp [mrV, mrC, h]
theorem mr_no {s ar : Int} {ts : List (List Int)} (h : tupsB s ar ts = false) : mrV s ar ts = (0, []) ∧ mrC s ar ts = 2 := by simp [mrV, mrC, h]
theorem tups_part {s ar : Int} {ts : List (List Int)} {k : Nat} (h : tupsB s ar (ts.take k) = false) : tupsB s ar ts = false := tb_false fun hh => by
 have := tb_true (p := (1 ≤ ar ∧ ar ≤ 4) ∧ ∀ l ∈ ts.take k, rowOk s ar l) ⟨hh.1, fun l hl => hh.2 l (List.mem_of_mem_take hl)⟩
 unfold tupsB at h
 rw [h] at this
 cases this
theorem tups_succ {s ar : Int} {ts : List (List Int)} {k : Nat} (hk : k < ts.length) (h : tupsB s ar (ts.take k) = true) : tupsB s ar (ts.take (k + 1)) = tb (rowOk s ar ts[k]) := by
 have h1 := tb_iff.1 h
 unfold tupsB
 rw [Bool.eq_iff_iff, tb_iff, tb_iff, ← take_snoc hk]
 constructor
 ·intro hh
  exact hh.2 _ (List.mem_append_right _ (List.mem_singleton.2 rfl))
 ·intro hh
  refine ⟨h1.1, fun l hl => ?_⟩
  rcases List.mem_append.1 hl with hl | hl
  ·exact h1.2 l hl
  ·rw [List.mem_singleton.1 hl]; exact hh
set_option maxHeartbeats 3200000 in
set_option maxRecDepth 100000 in
theorem specMakeRel_any (w : World) {v : Value} {ts : List (List Int)} (h : rowsT.Rd w [v] ts) (hts : ts.length ≤ 2000000) {s : Int} (hs : sizeOk s) (ar : Int) :
  Calls Tryz.prog 38 #[.int .i64 s, .int .i64 ar, v] w (RetAC relT w (mrV s ar ts) (mrC s ar ts)) := by
 obtain ⟨ad, cap, hv, -, -, hcell⟩ := slices_ex h
 obtain rfl : v = _ := by simpa using hv
 have HC := Lib.hid hcell
 have hs2 : inB s 1 4 = true := inB_true.2 hs
 have hs4 : 1 ≤ s ∧ s ≤ 4 := hs
 have HS := Lib.hid hs
 clear h hv hcell hs
 go_enter Tryz.func38, Tryz.ntmps38
 go_wp2_with fail
 generalize hW : World.alloc w _ = W
 have hbW : Below w.heap.size w W := hW ▸ bA
 have hsW : w.heap.size < W.heap.size := by rw [← hW]; simp
 have r0 : W.cell? ⟨w.heap.size, 0, none⟩ = some (.int .i64 0) := by rw [← hW]; simp [go_sem]
 have r1 : W.cell? ⟨w.heap.size, 1, none⟩ = some (.slice none 0 0) := by rw [← hW]; simp [go_sem]
 have q0 : W.frozen? ⟨w.heap.size, 0, none⟩ = false := by rw [← hW]; simp [go_sem]
 have q1 : W.frozen? ⟨w.heap.size, 1, none⟩ = false := by rw [← hW]; simp [go_sem]
 clear hW
 refine (l01Size_any s W).mono ?_
 rintro e _ ⟨rfl, rfl⟩
 rw [hs2]
 clear hs2
 go_wp2_with fail
 refine (l01Arity_any ar _).mono ?_
 rintro e _ ⟨rfl, rfl⟩
 have HT0 : Hid (inB ar 1 4 = tupsB s ar (ts.take 0)) := by
  unfold Hid tupsB
  rw [Bool.eq_iff_iff, tb_iff, inB_true]
  simp
 rw [HT0.out]
 go_wp2_with fail
 go_loop [9, 8] (fun i q => ∃ k : Nat, k ≤ ts.length ∧ i = .int .i64 k ∧ q = .bool (tupsB s ar (ts.take k))) (fun i _ => ts.length - (intOf i).toNat)
 case atStart => exact ⟨0, Nat.zero_le _, rfl, rfl⟩
 case round =>
  obtain ⟨k, hk, rfl, rfl⟩ := hrel
  cases hb : tupsB s ar (ts.take k)
  ·have HR := Lib.hid (mr_no (tups_part hb))
   have HZ0 := Lib.hid (fun (x y : Value) => res2_0 (x := x) (y := y) r0)
   have HZ1 := Lib.hid (fun (x y : Value) => res2_1 (x := x) (y := y) r1)
   by_cases hkl : k < ts.length
   ·have hd : decide ((k : Int) < (ts.length : Int)) = true := by simp; omega
    have hd' : decide (k < ts.length) = true := by simp; omega
    go_wp2_with fail
    refine bodyPost_ret (v := .tuple #[.agg #[.int .i64 0, .slice none 0 0], .int .i64 2]) (by simp [results, Tryz.results38, go_sem, HZ0.out, HZ1.out]) rfl ⟨[.int .i64 0, .slice none 0 0], by rw [HR.out.2], ?_, res2_b hbW (by omega)⟩
    rw [HR.out.1]
    exact fr_rel0
   ·have hd : decide ((k : Int) < (ts.length : Int)) = false := by simp; omega
    have hd' : decide (k < ts.length) = false := by simp; omega
    go_wp2_with fail
    refine bodyPost_ret (v := .tuple #[.agg #[.int .i64 0, .slice none 0 0], .int .i64 2]) (by simp [results, Tryz.results38, go_sem, HZ0.out, HZ1.out]) rfl ⟨[.int .i64 0, .slice none 0 0], by rw [HR.out.2], ?_, res2_b hbW (by omega)⟩
    rw [HR.out.1]
    exact fr_rel0
  ·by_cases hkl : k < ts.length
   ·obtain ⟨lb, lo, rfl, hlb, hlce⟩ := HC.out (by omega)
    obtain ⟨y, hry, hcy⟩ := hlce k hkl
    have e0 := (cellB hbW hlb).trans hcy
    have HSU := Lib.hid (tups_succ hkl hb)
    have HY := Lib.hid (hry.below hbW)
    obtain ⟨ya, yc, rfl⟩ := rd_slice hry
    have hd : decide ((k : Int) < (ts.length : Int)) = true := by simp; omega
    have hd' : decide (k < ts.length) = true := by simp; omega
    clear hlce hry hcy
    go_wp2_with fail
    refine (l01Tuple_any s ar _ HY.out (by omega) (by omega)).mono ?_
    rintro e _ ⟨rfl, rfl⟩
    rw [← HSU.out]
    go_wp2_with fail
    go_round
    case rel => exact ⟨k + 1, by omega, by go_num, rfl⟩
    case measure => simp [intOf]; omega
   ·obtain rfl : k = ts.length := by omega
    rw [List.take_length] at hb
    have hd : decide ((ts.length : Int) < (ts.length : Int)) = false := by simp
    have HR := Lib.hid (mr_yes hb)
    have HT := Lib.hid (tb_iff.1 hb)
    obtain ⟨an, han⟩ : ∃ an : Nat, ar = (an : Int) := ⟨ar.toNat, by have := HT.out.1; omega⟩
    subst han
    have han4 : 1 ≤ an ∧ an ≤ 4 := by have := HT.out.1; omega
    obtain ⟨N, hN⟩ : ∃ N : Nat, s ^ an = (N : Int) := ⟨(s ^ an).toNat, by have := pow_nn (s := s) (by omega) an; omega⟩
    have hN256 : N ≤ 256 := by
     have h1 : s ^ an ≤ 256 := by
      refine Int.le_trans (pow_mono' (by omega) (show s ≤ 4 by omega) an) ?_
      rcases (show an = 1 ∨ an = 2 ∨ an = 3 ∨ an = 4 by omega) with e | e | e | e <;> rw [e] <;> decide
     omega
    have HN := Lib.hid hN
    have HTP : Hid (∀ l ∈ ts, tupP s an l) := fun l hl => by
     obtain ⟨g1, g2⟩ := HT.out.2 l hl
     exact ⟨by omega, g2⟩
    clear hN hb HT
    go_wp2_with fail
    refine (l01Empty3_any _ s an (by omega) (by omega) (by omega) N HN.out (by omega)).mono ?_
    rintro e w1 ⟨bx, g, rfl, hset, hb1⟩
    have HS1 := Lib.hid hset
    have hg0 : W.heap.size ≤ g := hset.1.2.2.2.2.2.1
    have hbx0 := hset.1.1
    have hbW1 := bthen hbW hb1
    have hz1 := hb1.size
    clear hset
    go_wp2_with fail
    go_loopw [11] (fun i wr => ∃ k : Nat, k ≤ ts.length ∧ i = .int .i64 k ∧ Set3 wr W.heap.size bx g s an N (ts.take k) ∧ Below W.heap.size W wr) (fun i _ => ts.length - (intOf i).toNat)
    case atStart => exact ⟨0, Nat.zero_le _, rfl, by rw [List.take_zero]; exact HS1.out, hb1⟩
    case round =>
     obtain ⟨k, hk, rfl, hset, hbel⟩ := hrel
     have HS2 := Lib.hid hset
     have hbw := bthen hbW hbel
     have hz2 := hbel.size
     clear hset
     by_cases hkl : k < ts.length
     ·obtain ⟨lb, lo, rfl, hlb, hlce⟩ := HC.out (by omega)
      obtain ⟨y, hry, hcy⟩ := hlce k hkl
      have e0 := (cellB hbw hlb).trans hcy
      have HY := Lib.hid (hry.below hbw)
      have HTK := Lib.hid (HTP.out _ (List.getElem_mem hkl))
      have HTS : Hid (ts.take k ++ [ts[k]] = ts.take (k + 1)) := take_snoc hkl
      obtain ⟨ya, yc, rfl⟩ := rd_slice hry
      clear hlce hry hcy
      go_wp2_with fail
      refine (put_any wr HS2.out hs4 (by omega) HN.out HY.out HTK.out.1 HTK.out.2).mono ?_
      rintro e w2 ⟨rfl, hset2, hT2⟩
      rw [HTS.out] at hset2
      have HS3 := Lib.hid hset2
      have hb3 : Below W.heap.size W w2 := hbel.trans (hT2.below (by omega) (fun q hq e => by omega))
      clear hset2 hT2
      go_wp2_with fail
      go_roundw
      case rel => exact ⟨k + 1, by omega, by go_num, HS3.out, hb3⟩
      case measure => simp [intOf]; omega
     ·obtain rfl : k = ts.length := by omega
      rw [List.take_length] at HS2
      have f0 := (cellB hbel hsW).trans r0
      have f1 := (cellB hbel hsW).trans r1
      have f2 := (frozenB hbel hsW).trans q0
      have f3 := (frozenB hbel hsW).trans q1
      clear r0 r1 q0 q1
      go_wp2_with fail
      refine (rel_any wr HS2.out hs4 (by omega) HN.out (by omega) (fun l hl => HTP.out l hl)).mono ?_
      rintro e w3 ⟨cs3, rfl, hf3, hb3⟩
      have HV : Hid ((((an : Nat) : Int), relL s an (fun l => tb (l ∈ ts)) N) = mrV s an ts) := by
       unfold Hid
       rw [HR.out.1]
       unfold setR
       rw [Int.toNat_natCast, HN.out, Int.toNat_natCast]
      obtain ⟨R, hR⟩ : ∃ R, R = relL s an (fun l => tb (l ∈ ts)) N := ⟨_, rfl⟩
      rw [← hR] at hf3 HV
      obtain ⟨a3, c3, rfl⟩ := fr_pair hf3
      have HF3 := Lib.hid hf3
      have hz3 := hb3.size
      have hB3 := bthen hbw hb3
      have hlw : w.heap.size < wr.heap.size := by omega
      replace f0 := (cellB hb3 (by omega)).trans f0
      replace f1 := (cellB hb3 (by omega)).trans f1
      replace f2 := (frozenB hb3 (by omega)).trans f2
      replace f3 := (frozenB hb3 (by omega)).trans f3
      have HZ0 := Lib.hid (fun (x y : Value) => res2_0 (x := x) (y := y) f0)
      have HZ1 := Lib.hid (fun (x y : Value) => res2_1 (x := x) (y := y) f1)
      clear hf3 hR
      go_wp2_with fail
      refine bodyPost_ret (v := .tuple #[.agg #[.int .i64 (an : Int), .slice a3 R.length c3], .int .i64 0]) (by simp [results, Tryz.results38, go_sem, HZ0.out, HZ1.out]) rfl ⟨[.int .i64 (an : Int), .slice a3 R.length c3], by rw [HR.out.2], ?_, res2_b hB3 (by omega)⟩
      rw [← HV.out]
      exact (fr_set2 HF3.out hlw).mono (by omega)
end Go.Proofs.YtggelmbnliajeaaGreatDoor
namespace Go.Proofs.YtggelmbnliajeaaGreatDoor
open Go.RowKit Go.Maps Go.ChangeMaps Go.MapKept
theorem plainElem_bool_inv {H : Type} {P : Program} {e : TypeId} (he : P.underlying e = some .bool) {v : Value} {z : DataW H × List MemPlace} (h : plainElem P e v = some z) : ∃ a, v = .bool a ∧ z = (.lit (.bool a), []) := by
 unfold plainElem at h
 rw [he] at h
 cases v <;> simp at h
 exact ⟨_, rfl, h.symm⟩
/-- block b is a set of texts -/
def SeenM (P : Program) (k e : TypeId) (w : World) (b n : Nat) (Ks : List (List UInt8)) : Prop := ∃ D : DataW Unit, w.ownsMap P k (plainElem P e) b n D ∧ ∀ s : List UInt8, D.atKey (.string s) (.lit (.bool false)) = .lit (.bool (decide (s ∈ Ks)))
section
variable {P : Program} {k e : TypeId} {w w' : World} {b n : Nat} {Ks : List (List UInt8)}
theorem SeenM.made (w : World) : SeenM P k e (w.alloc (.map #[] 0)) w.heap.size 0 [] := ⟨_, World.ownsMap_made w P k _, fun s => by simp [DataW.atKey]⟩
theorem SeenM.lt (h : SeenM P k e w b n Ks) : b < w.heap.size := let ⟨_, h, _⟩ := h; h.lt
theorem SeenM.block (h : SeenM P k e w b n Ks) (hb : w'.heap[b]? = w.heap[b]?) : SeenM P k e w' b n Ks := by
 obtain ⟨D, ⟨es, clock, h1, h2, h3, h4⟩, h5⟩ := h
 exact ⟨D, ⟨es, clock, hb.trans h1, h2, h3, h4⟩, h5⟩
theorem SeenM.mono (h : SeenM P k e w b n Ks) {n' : Nat} (hn : n ≤ n') : SeenM P k e w b n' Ks := let ⟨D, h1, h2⟩ := h; ⟨D, h1.mono hn, h2⟩
theorem SeenM.look (h : SeenM P k e w b n Ks) (hk : P.underlying k = some .string) {t : TypeId} (ht : P.underlying t = some (.map k e)) (he : P.underlying e = some .bool) (hz : (zeroValue e).run P w = .ok (.bool false) w) {s : List UInt8} (hs : s.length ≤ 1000000) :
  (Instr.lookup t (.map (some b)) (.string ⟨s.toArray⟩) false).run P w = .ok (.bool (decide (s ∈ Ks))) w := by
 obtain ⟨D, h1, h2⟩ := h
 have hkey := WideMaps.keyOf_string_mk (P := P) (k := k) hk (s := ⟨s.toArray⟩) (by show s.toArray.size ≤ _; unfold maxLen; simp; omega)
 obtain ⟨v, ps, hrun, hv⟩ := h1.lookup (string_keyed hk) ht hz (plainElem_bool he false) hkey
 obtain ⟨c, rfl, hc⟩ := plainElem_bool_inv he hv
 simp only [Prod.mk.injEq] at hc
 have h3 := h2 s
 rw [show (.string s : Lit) = .string (⟨s.toArray⟩ : ByteArray).data.toList from rfl, hc.1] at h3
 simp only [DataW.lit.injEq, Lit.bool.injEq] at h3
 rw [hrun, h3]
theorem SeenM.put (h : SeenM P k e w b n Ks) (hk : P.underlying k = some .string) {t : TypeId} (ht : P.underlying t = some (.map k e)) (he : P.underlying e = some .bool) {s : List UInt8} (hs : s.length ≤ 1000000) (hn : n ≤ 1000000000) :
  ∃ w', (Instr.mapUpdate t (.map (some b)) (.string ⟨s.toArray⟩) (.bool true)).run P w = .ok () w' ∧ SeenM P k e w' b (n + 1) (s :: Ks) ∧ w.grownBy w' (some b) ∧ w'.heap.size = w.heap.size := by
 obtain ⟨D, h1, h2⟩ := h
 have hkey := WideMaps.keyOf_string_mk (P := P) (k := k) hk (s := ⟨s.toArray⟩) (by show s.toArray.size ≤ _; unfold maxLen; simp; omega)
 obtain ⟨w', hrun, h3, h4⟩ := h1.store (string_keyed hk) ht (by unfold maxLen; omega) hkey (plainElem_bool he true)
 refine ⟨w', hrun, ⟨_, h3, fun u => ?_⟩, h4.grown, ?_⟩
 ·by_cases e1 : u = s
  ·subst e1
   rw [show (.string u : Lit) = .string (⟨u.toArray⟩ : ByteArray).data.toList from rfl, atKey_put_same h1.isMap ((string_keyed hk).key hkey)]
   simp
  ·rw [atKey_put_other (fun e2 => e1 (by simpa using e2)), h2 u]
   simp [e1]
 ·obtain ⟨_, _, _, _, _, rfl⟩ := h4
  simp [setBlock]
end
end Go.Proofs.YtggelmbnliajeaaGreatDoor
namespace Go.Proofs.YtggelmbnliajeaaGreatDoor
open Go.RowKit Go.Sort
/-- the indices with one more, at a place -/
def insAt (rest : List Int) (p : Nat) (x : Int) : List Int := rest.take p ++ x :: rest.drop p
theorem insAt_len {rest : List Int} {p : Nat} {x : Int} : (insAt rest p x).length = rest.length + 1 := by
 unfold insAt
 simp only [List.length_append, List.length_cons, List.length_take, List.length_drop]
 omega
theorem insAt_mem {rest : List Int} {p : Nat} {x a : Int} (h : a ∈ insAt rest p x) : a = x ∨ a ∈ rest := by
 unfold insAt at h
 rcases List.mem_append.1 h with h | h
 ·exact .inr (List.mem_of_mem_take h)
 ·rcases List.mem_cons.1 h with h | h
  ·exact .inl h
  ·exact .inr (List.mem_of_mem_drop h)
/-- the lists at indices -/
def pickL (L : List (List Int)) (ks : List Int) : List (List Int) := ks.map fun k => L.getD k.toNat []
theorem pickL_len {L : List (List Int)} {ks : List Int} : (pickL L ks).length = ks.length := by simp [pickL]
theorem pickL_in {L : List (List Int)} {ks : List Int} (h : ∀ k ∈ ks, 0 ≤ k ∧ k < (L.length : Int)) : ∀ l ∈ pickL L ks, l ∈ L := fun l hl => by
 obtain ⟨k, hk, rfl⟩ := List.mem_map.1 hl
 have := h k hk
 have hkl : k.toNat < L.length := by omega
 rw [List.getD_eq_getElem?_getD, List.getElem?_eq_getElem hkl]
 exact List.getElem_mem hkl
/-- a list of lists of which one is the last: what indices it has, parted at the first place of the last one -/
theorem pick_ex {L : List (List Int)} (h0 : 0 < L.length) : ∀ {ts : List (List Int)}, (∀ l ∈ ts, l ∈ L) → L[L.length - 1]'(by omega) ∈ ts →
  ∃ (rest : List Int) (p : Nat), p ≤ rest.length ∧ rest.length + 1 = ts.length ∧ (∀ k ∈ rest, 0 ≤ k ∧ k ≤ (L.length : Int) - 1) ∧ ((L.length : Int) - 1) ∉ rest.take p ∧ pickL L (insAt rest p ((L.length : Int) - 1)) = ts
 | [], _, hm => by cases hm
 | t :: ts, hall, hm => by
  have hone : ∀ {us : List (List Int)}, (∀ l ∈ us, l ∈ L) → ∃ ks : List Int, ks.length = us.length ∧ (∀ k ∈ ks, 0 ≤ k ∧ k ≤ (L.length : Int) - 1) ∧ pickL L ks = us := fun {us} hus => by
   induction us with
   | nil => exact ⟨[], rfl, fun k hk => (by cases hk), rfl⟩
   | cons u us ih =>
    obtain ⟨ks, h1, h2, h3⟩ := ih (fun l hl => hus l (List.mem_cons_of_mem _ hl))
    obtain ⟨i, hi, e⟩ := List.mem_iff_getElem.1 (hus u (List.mem_cons_self ..))
    refine ⟨(i : Int) :: ks, by simp [h1], fun k hk => ?_, ?_⟩
    ·rcases List.mem_cons.1 hk with rfl | hk
     ·omega
     ·exact h2 k hk
    ·show L.getD ((i : Int)).toNat [] :: pickL L ks = u :: us
     rw [h3, Int.toNat_natCast, List.getD_eq_getElem?_getD, List.getElem?_eq_getElem hi, ← e]
     rfl
  by_cases e : t = L[L.length - 1]'(by omega)
  ·obtain ⟨ks, h1, h2, h3⟩ := hone (us := ts) (fun l hl => hall l (List.mem_cons_of_mem _ hl))
   refine ⟨ks, 0, Nat.zero_le _, by simp [h1], h2, by simp, ?_⟩
   show L.getD (((L.length : Int) - 1)).toNat [] :: pickL L (ks.drop 0) = t :: ts
   rw [List.drop_zero, h3, e, show (((L.length : Int) - 1)).toNat = L.length - 1 by omega, List.getD_eq_getElem?_getD, List.getElem?_eq_getElem (by omega)]
   rfl
  ·have hm' : L[L.length - 1]'(by omega) ∈ ts := by
    rcases List.mem_cons.1 hm with h | h
    ·exact absurd h.symm e
    ·exact h
   obtain ⟨rest, p, g1, g2, g3, g4, g5⟩ := pick_ex h0 (fun l hl => hall l (List.mem_cons_of_mem _ hl)) hm'
   obtain ⟨i, hi, ei⟩ := List.mem_iff_getElem.1 (hall t (List.mem_cons_self ..))
   have hne : (i : Int) ≠ (L.length : Int) - 1 := fun h => e (by
    have : i = L.length - 1 := by omega
    subst this
    exact ei.symm)
   refine ⟨(i : Int) :: rest, p + 1, by simp; omega, by simp; omega, fun k hk => ?_, fun hk => ?_, ?_⟩
   ·rcases List.mem_cons.1 hk with rfl | hk
    ·omega
    ·exact g3 k hk
   ·rw [List.take_succ_cons] at hk
    rcases List.mem_cons.1 hk with h | h
    ·exact hne h.symm
    ·exact g4 h
   ·show pickL L ((i : Int) :: insAt rest p ((L.length : Int) - 1)) = t :: ts
    show L.getD ((i : Int)).toNat [] :: pickL L (insAt rest p ((L.length : Int) - 1)) = t :: ts
    rw [g5, Int.toNat_natCast, List.getD_eq_getElem?_getD, List.getElem?_eq_getElem hi, ← ei]
    rfl
/-- what the operation has put in, as far as place p and index i -/
def CmbTo (s : Int) (f : Int × List Int) (ar : Nat) (L A : List (List Int)) (p i : Nat) : Prop :=
 ∀ (q j : Nat), q < f.1.toNat → (j : Int) < (L.length : Int) ^ (f.1.toNat - 1) → (q < p ∨ (q = p ∧ j < i)) → ((L.length : Int) - 1) ∉ (digL L.length j (f.1.toNat - 1)).take q → madeL s f.2 (pickL L (insAt (digL L.length j (f.1.toNat - 1)) q ((L.length : Int) - 1))) ar ∈ A
theorem cmb_zero {s : Int} {f : Int × List Int} {ar : Nat} {L A : List (List Int)} : CmbTo s f ar L A 0 0 := fun q j _ _ h _ => by omega
theorem cmb_skip {s : Int} {f : Int × List Int} {ar : Nat} {L A : List (List Int)} {p i : Nat} (h : CmbTo s f ar L A p i) (hs : ((L.length : Int) - 1) ∈ (digL L.length i (f.1.toNat - 1)).take p) : CmbTo s f ar L A p (i + 1) := fun q j h1 h2 h3 h4 => by
 rcases h3 with h3 | ⟨rfl, h3⟩
 ·exact h q j h1 h2 (.inl h3) h4
 ·by_cases e : j = i
  ·subst e; exact absurd hs h4
  ·exact h q j h1 h2 (.inr ⟨rfl, by omega⟩) h4
theorem cmb_put {s : Int} {f : Int × List Int} {ar : Nat} {L A A' : List (List Int)} {p i : Nat} (h : CmbTo s f ar L A p i) (hs : ∀ l ∈ A, l ∈ A') (hm : madeL s f.2 (pickL L (insAt (digL L.length i (f.1.toNat - 1)) p ((L.length : Int) - 1))) ar ∈ A') : CmbTo s f ar L A' p (i + 1) := fun q j h1 h2 h3 h4 => by
 rcases h3 with h3 | ⟨rfl, h3⟩
 ·exact hs _ (h q j h1 h2 (.inl h3) h4)
 ·by_cases e : j = i
  ·subst e; exact hm
  ·exact hs _ (h q j h1 h2 (.inr ⟨rfl, by omega⟩) h4)
theorem cmb_next {s : Int} {f : Int × List Int} {ar : Nat} {L A : List (List Int)} {p M : Nat} (h : CmbTo s f ar L A p M) (hM : (L.length : Int) ^ (f.1.toNat - 1) = M) : CmbTo s f ar L A (p + 1) 0 := fun q j h1 h2 h3 h4 => by
 rcases h3 with h3 | ⟨_, h3⟩
 ·refine h q j h1 h2 ?_ h4
  by_cases e : q = p
  ·exact .inr ⟨e, by omega⟩
  ·exact .inl (by omega)
 ·exact absurd h3 (Nat.not_lt_zero _)
/-- all that an operation makes of lists of which one at least is the last is there -/
def CmbP (s : Int) (f : Int × List Int) (ar : Nat) (L A : List (List Int)) : Prop := ∀ h0 : 0 < L.length, ∀ ts : List (List Int), (ts.length : Int) = f.1 → (∀ l ∈ ts, l ∈ L) → L[L.length - 1]'(by omega) ∈ ts → madeL s f.2 ts ar ∈ A
theorem cmb_end {s : Int} {f : Int × List Int} {ar : Nat} {L A : List (List Int)} (hf : 1 ≤ f.1) (h : CmbTo s f ar L A f.1.toNat 0) : CmbP s f ar L A := fun h0 ts hl hall hm => by
 obtain ⟨rest, p, g1, g2, g3, g4, rfl⟩ := pick_ex h0 hall hm
 have hrl : rest.length = f.1.toNat - 1 := by omega
 have hb := idx_lt (s := L.length) (by omega) hrl g3
 have e := dig_of (s := L.length) (by omega) hrl g3
 have h1 := h p (idxL L.length 0 rest).toNat (by omega) (by omega) (.inl (by omega))
 rw [show (((idxL L.length 0 rest).toNat : Nat) : Int) = idxL L.length 0 rest by omega, e] at h1
 exact h1 g4
theorem cmbP_more {s : Int} {f : Int × List Int} {ar : Nat} {L A A' : List (List Int)} (h : CmbP s f ar L A) (hs : ∀ l ∈ A, l ∈ A') : CmbP s f ar L A' := fun h0 ts h1 h2 h3 => hs _ (h h0 ts h1 h2 h3)
/-- what the loop knows: the lists are told apart, are of the closure, hold what was there, and what the first ones make -/
structure ClI (s : Int) (ops : List (Int × List Int)) (ar : Nat) (T A : List (List Int)) : Prop where
 nd : A.Nodup
 clo : ∀ l ∈ A, Clo s ops ar T l
 sub : ∀ l ∈ T, l ∈ A
def DoneTo (s : Int) (ops : List (Int × List Int)) (ar : Nat) (A : List (List Int)) (d : Nat) : Prop := ∀ e, e < d → ∀ f ∈ ops, CmbP s f ar (A.take (e + 1)) A
theorem done_zero {s : Int} {ops : List (Int × List Int)} {ar : Nat} {A : List (List Int)} : DoneTo s ops ar A 0 := fun _ h => absurd h (Nat.not_lt_zero _)
theorem take_pre {A A' : List (List Int)} (h : A <+: A') {k : Nat} (hk : k ≤ A.length) : A'.take k = A.take k := by
 obtain ⟨B, rfl⟩ := h
 exact List.take_append_of_le_length hk
theorem done_more {s : Int} {ops : List (Int × List Int)} {ar : Nat} {A A' : List (List Int)} {d : Nat} (h : DoneTo s ops ar A d) (hp : A <+: A') (hd : d ≤ A.length) : DoneTo s ops ar A' d := fun e he f hf => by
 rw [take_pre hp (by omega)]
 exact cmbP_more (h e he f hf) (fun l hl => hp.subset hl)
theorem done_succ {s : Int} {ops : List (Int × List Int)} {ar : Nat} {A : List (List Int)} {d : Nat} (h : DoneTo s ops ar A d) (h' : ∀ f ∈ ops, CmbP s f ar (A.take (d + 1)) A) : DoneTo s ops ar A (d + 1) := fun e he => by
 by_cases ee : e = d
 ·subst ee; exact h'
 ·exact h e (by omega)
/-- a list of lists of A lies in a first part of it, and holds that part's last -/
theorem last_ex {A : List (List Int)} : ∀ {ts : List (List Int)}, ts ≠ [] → (∀ l ∈ ts, l ∈ A) → ∃ (d : Nat) (h : d < A.length), (∀ l ∈ ts, l ∈ A.take (d + 1)) ∧ A[d] ∈ ts
 | [], h, _ => absurd rfl h
 | [t], _, hall => by
  obtain ⟨i, hi, e⟩ := List.mem_iff_getElem.1 (hall t (List.mem_cons_self ..))
  refine ⟨i, hi, fun l hl => ?_, by rw [e]; exact List.mem_cons_self ..⟩
  rw [List.mem_singleton.1 hl, ← e]
  exact List.mem_take_iff_getElem.2 ⟨i, by omega, rfl⟩
 | t :: u :: ts, _, hall => by
  obtain ⟨d, hd, h1, h2⟩ := last_ex (A := A) (ts := u :: ts) (by simp) (fun l hl => hall l (List.mem_cons_of_mem _ hl))
  obtain ⟨i, hi, e⟩ := List.mem_iff_getElem.1 (hall t (List.mem_cons_self ..))
  rcases Nat.lt_or_ge d i with hlt | hge
  ·refine ⟨i, hi, fun l hl => ?_, by rw [e]; exact List.mem_cons_self ..⟩
   rcases List.mem_cons.1 hl with rfl | hl
   ·rw [← e]
    exact List.mem_take_iff_getElem.2 ⟨i, by omega, rfl⟩
   ·obtain ⟨j, hj, ej⟩ := List.mem_take_iff_getElem.1 (h1 l hl)
    exact List.mem_take_iff_getElem.2 ⟨j, by omega, ej⟩
  ·refine ⟨d, hd, fun l hl => ?_, List.mem_cons_of_mem _ h2⟩
   rcases List.mem_cons.1 hl with rfl | hl
   ·rw [← e]
    exact List.mem_take_iff_getElem.2 ⟨i, by omega, rfl⟩
   ·exact h1 l hl
/-- at the end all is closed -/
theorem done_end {s : Int} {ops : List (Int × List Int)} {ar : Nat} {T A : List (List Int)} (ho : ∀ f ∈ ops, opOk s f) (hI : ClI s ops ar T A) (h : DoneTo s ops ar A A.length) {l : List Int} : l ∈ A ↔ Clo s ops ar T l := by
 refine clo_closed ho hI.sub hI.clo fun f hf => (keeps_iff (ho f hf).2.1.1).2 fun ts hl hts => ?_
 have h1 := (ho f hf).2.1.1
 have hne : ts ≠ [] := fun e => by subst e; simp at hl; omega
 obtain ⟨d, hd, g1, g2⟩ := last_ex hne hts
 have hlen : (A.take (d + 1)).length = d + 1 := by rw [List.length_take]; omega
 refine h d hd f hf (by rw [hlen]; omega) ts hl g1 ?_
 have : (A.take (d + 1))[(A.take (d + 1)).length - 1]'(by rw [hlen]; omega) = A[d] := by
  rw [List.getElem_take]
  congr 1
  rw [hlen]
  omega
 rw [this]
 exact g2
theorem cli_add {s : Int} {ops : List (Int × List Int)} {ar : Nat} {T A : List (List Int)} (h : ClI s ops ar T A) {l : List Int} (hl : l ∉ A) (hc : Clo s ops ar T l) : ClI s ops ar T (A ++ [l]) where
 nd := List.nodup_append.2 ⟨h.nd, by simp, fun a ha b hb e => by rw [List.mem_singleton.1 hb] at e; subst e; exact hl ha⟩
 clo := fun x hx => by
  rcases List.mem_append.1 hx with hx | hx
  ·exact h.clo x hx
  ·rw [List.mem_singleton.1 hx]; exact hc
 sub := fun x hx => List.mem_append_left _ (h.sub x hx)
end Go.Proofs.YtggelmbnliajeaaGreatDoor
namespace Go.Proofs
open Go.Shelf
def Tryz.lays173_ren : Go.Shelf.Ren := ⟨fun | 173 => 152 | 246 => 161 | 283 => 164 | 284 => 165 | 285 => 166 | 286 => 167 | 129 => 150 | 317 => 169 | 318 => 170 | 319 => 171 | 320 => 172 | 337 => 173 | 338 => 174 | n => n, fun | 2 => 2 | 3 => 3 | 9 => 9 | 4 => 4 | 171 => 180 | 0 => 0 | 53 => 134 | 37 => 39 | 5 => 5 | 173 => 182 | 212 => 186 | 51 => 165 | 20 => 20 | 213 => 187 | 46 => 148 | 232 => 189 | 233 => 190 | n => n, fun | 17 => 0 | 18 => 1 | 19 => 2 | n => n⟩
theorem Tryz.lays173 : Go.Proofs.Lays.n173 Tryz.prog Tryz.lays173_ren := {
 mixed := by kernel_rfl
 f129 := Tryz.func150.trans (congrArg some (by kernel_rfl))
 f173 := Tryz.func152.trans (congrArg some (by kernel_rfl))
 f246 := Tryz.func161.trans (congrArg some (by kernel_rfl))
 f283 := Tryz.func164.trans (congrArg some (by kernel_rfl))
 f284 := Tryz.func165.trans (congrArg some (by kernel_rfl))
 f285 := Tryz.func166.trans (congrArg some (by kernel_rfl))
 f286 := Tryz.func167.trans (congrArg some (by kernel_rfl))
 f317 := Tryz.func169.trans (congrArg some (by kernel_rfl))
 f318 := Tryz.func170.trans (congrArg some (by kernel_rfl))
 f319 := Tryz.func171.trans (congrArg some (by kernel_rfl))
 f320 := Tryz.func172.trans (congrArg some (by kernel_rfl))
 f337 := Tryz.func173.trans (congrArg some (by kernel_rfl))
 f338 := Tryz.func174.trans (congrArg some (by kernel_rfl))
 t0 := Tryz.underlying0
 a0 := Tryz.isAgg0
 z0 := Tryz.sizeOf0
 v0 := Tryz.zeroValue0
 t2 := Tryz.underlying2
 a2 := Tryz.isAgg2
 z2 := Tryz.sizeOf2
 v2 := Tryz.zeroValue2
 t3 := Tryz.underlying3
 a3 := Tryz.isAgg3
 z3 := Tryz.sizeOf3
 v3 := Tryz.zeroValue3
 t4 := Tryz.underlying4
 a4 := Tryz.isAgg4
 z4 := Tryz.sizeOf4
 v4 := Tryz.zeroValue4
 t5 := Tryz.underlying5
 a5 := Tryz.isAgg5
 z5 := Tryz.sizeOf5
 v5 := Tryz.zeroValue5
 t9 := Tryz.underlying9
 a9 := Tryz.isAgg9
 z9 := Tryz.sizeOf9
 v9 := Tryz.zeroValue9
 t20 := Tryz.underlying20
 a20 := Tryz.isAgg20
 z20 := Tryz.sizeOf20
 v20 := Tryz.zeroValue20
 t37 := Tryz.underlying39
 a37 := Tryz.isAgg39
 z37 := Tryz.sizeOf39
 v37 := Tryz.zeroValue39
 t46 := Tryz.underlying148
 a46 := Tryz.isAgg148
 z46 := Tryz.sizeOf148
 v46 := Tryz.zeroValue148
 t51 := Tryz.underlying165
 a51 := Tryz.isAgg165
 z51 := Tryz.sizeOf165
 v51 := Tryz.zeroValue165
 t53 := Tryz.underlying134
 a53 := Tryz.isAgg134
 z53 := Tryz.sizeOf134
 v53 := Tryz.zeroValue134
 t171 := Tryz.underlying180
 a171 := Tryz.isAgg180
 z171 := Tryz.sizeOf180
 v171 := Tryz.zeroValue180
 t173 := Tryz.underlying182
 a173 := Tryz.isAgg182
 z173 := Tryz.sizeOf182
 v173 := Tryz.zeroValue182
 t212 := Tryz.underlying186
 a212 := Tryz.isAgg186
 z212 := Tryz.sizeOf186
 v212 := Tryz.zeroValue186
 t213 := Tryz.underlying187
 a213 := Tryz.isAgg187
 z213 := Tryz.sizeOf187
 t232 := Tryz.underlying189
 a232 := Tryz.isAgg189
 z232 := Tryz.sizeOf189
 v232 := Tryz.zeroValue189
 t233 := Tryz.underlying190
 a233 := Tryz.isAgg190
 z233 := Tryz.sizeOf190
 v233 := Tryz.zeroValue190
 g17 := by kernel_rfl
 g18 := by kernel_rfl
 g19 := by kernel_rfl }
open Go.RowKit Go.Sort Go.Lib in
/-- THE ROAD WITHOUT THE TABLE: 0 <= i < 100. (LAID: no walk: one application.) -/
theorem Tryz.strconv_FormatInt_10_small (i : Nat) (hi : i < 100) (w : World) :
  Calls Tryz.prog 152 #[.int .i64 i, .int .i64 10] w fun e w' => e = .returned (.string ⟨(Lib.decDigits i).toArray⟩) ∧ w' = w := Any.strconv_FormatInt_10_small Tryz.lays173 i hi w
end Go.Proofs
namespace Go.Proofs.YtggelmbnliajeaaGreatDoor
open Go.RowKit Go.Sort
/-- bytes joined, behind a name -/
def cat (a b : List UInt8) : List UInt8 := a ++ b
theorem cat_len {a b : List UInt8} : (cat a b).length = a.length + b.length := List.length_append
theorem add_cat {P : Program} (w : World) (a b : List UInt8) (h : a.length + b.length ≤ 1000000000) : (Op.stringOp .add ⟨a.toArray⟩ ⟨b.toArray⟩).run P w = .ok (.string ⟨(cat a b).toArray⟩) w := by
 have h1 : (ByteArray.mk a.toArray).size = a.length := by show a.toArray.size = _; simp
 have h2 : (ByteArray.mk b.toArray).size = b.length := by show b.toArray.size = _; simp
 rw [run_string_add_sum w _ _ (by rw [h1, h2]; omega), ByteArray.mk_append_mk]
 simp [cat]
/-- a number's digits -/
def decB (n : Int) : List UInt8 := Lib.decDigits n.toNat
theorem dec_one {n : Int} (h0 : 0 ≤ n) (h1 : n < 10) : decB n = [UInt8.ofNat (48 + n.toNat)] := Lib.decDigits_one (by omega)
theorem dec_two {n : Int} (h0 : 10 ≤ n) (h1 : n < 100) : decB n = cat (decB (n / 10)) [UInt8.ofNat (48 + (n % 10).toNat)] := by
 unfold decB cat
 rw [Lib.decDigits, dif_neg (by omega), show (n / 10).toNat = n.toNat / 10 by omega, show (n % 10).toNat = n.toNat % 10 by omega]
theorem dec_len {n : Int} (h1 : n < 100) : 1 ≤ (decB n).length ∧ (decB n).length ≤ 2 := by
 by_cases h : n < 10
 ·unfold decB; rw [Lib.decDigits_one (by omega)]; simp
 ·rw [dec_two (by omega) h1, cat_len, dec_one (by omega) (by omega)]; simp
/-- a text, and behind it each one's part -/
def catL {α : Type} (f : α → List UInt8) (hd : List UInt8) (xs : List α) : List UInt8 := hd ++ (xs.map f).flatten
section
variable {α : Type} {f : α → List UInt8} {hd : List UInt8} {xs : List α}
theorem catL_succ {k : Nat} (h : k < xs.length) : catL f hd (xs.take (k + 1)) = cat (catL f hd (xs.take k)) (f xs[k]) := by
 unfold catL cat
 rw [List.take_succ_eq_append_getElem h, List.map_append, List.flatten_append]
 simp only [List.map_cons, List.map_nil, List.flatten_cons, List.flatten_nil, List.append_nil, List.append_assoc]
theorem flatB_len {B : Nat} : ∀ {ys : List α}, (∀ x ∈ ys, (f x).length ≤ B) → ((ys.map f).flatten).length ≤ ys.length * B
 | [], _ => by simp
 | y :: ys, hB => by
  have h1 := hB y (List.mem_cons_self ..)
  have h2 := flatB_len fun z hz => hB z (List.mem_cons_of_mem _ hz)
  simp only [List.map_cons, List.flatten_cons, List.length_append, List.length_cons, Nat.succ_mul]
  omega
theorem catL_len {B : Nat} (hB : ∀ x ∈ xs, (f x).length ≤ B) : (catL f hd xs).length ≤ hd.length + xs.length * B := by
 unfold catL
 rw [List.length_append]
 have := flatB_len hB
 omega
end
theorem dec_any (w : World) {n : Int} (h0 : 0 ≤ n) (h1 : n < 100) : Calls Tryz.prog 138 #[.int .i64 n] w fun e w' => e = .returned (.string ⟨(decB n).toArray⟩) ∧ w = w' := by
 obtain ⟨k, rfl⟩ : ∃ k : Nat, n = k := ⟨n.toNat, by omega⟩
 have HK : Hid (Lib.decDigits k = decB k) := rfl
 go_enter Tryz.func138, Tryz.ntmps138
 go_wp2_with (go_at_call 152; refine (Tryz.strconv_FormatInt_10_small k (by omega) _).mono ?_; rintro e w' ⟨rfl, rfl⟩)
 go_ret
 exact ⟨by rw [HK.out]; rfl, rfl⟩
theorem digits_any (w : World) {v : Value} {xs : List Int} (h : intsT.Rd w [v] xs) (hx : ∀ a ∈ xs, 0 ≤ a ∧ a < 100) (hl : xs.length ≤ 1000) :
  Calls Tryz.prog 107 #[v] w fun e w' => e = .returned (.string ⟨(catL decB [] xs).toArray⟩) ∧ w = w' := by
 obtain ⟨ad, cap, hv, -, -, hc⟩ := ints_ex h
 obtain rfl : v = _ := by simpa using hv
 clear h hv
 go_enter Tryz.func107, Tryz.ntmps107
 go_wp2_with fail
 go_loopw [3, 8] (fun c i wr => ∃ k : Nat, k ≤ xs.length ∧ i = .int .i64 k ∧ c = .string ⟨(catL decB [] (xs.take k)).toArray⟩ ∧ wr = w) (fun _ i _ => xs.length - (intOf i).toNat)
 case atStart => exact ⟨0, Nat.zero_le _, rfl, by simp [catL], rfl⟩
 case round =>
  obtain ⟨k, hk, rfl, rfl, rfl⟩ := hrel
  by_cases hkl : k < xs.length
  ·obtain ⟨b, o, rfl, hb, hce⟩ := hc (by omega)
   obtain ⟨hI, hck⟩ := hce k hkl
   have hin := hx _ (List.getElem_mem hkl)
   have HS := Lib.hid (catL_succ (f := decB) (hd := []) hkl)
   have hlen := catL_len (f := decB) (hd := []) (xs := xs.take k) (B := 2) fun y hy => (dec_len (hx y (List.mem_of_mem_take hy)).2).2
   have hl1 := dec_len hin.2
   rw [List.length_take] at hlen
   generalize hz : xs[k] = z at *
   have hlen' : (catL decB [] (xs.take k)).length ≤ 10000 := by simp at hlen; omega
   generalize catL decB [] (xs.take k) = C at *
   have hadd : ∀ W : World, (Op.stringOp .add ⟨C.toArray⟩ ⟨(decB z).toArray⟩).run Tryz.prog W = .ok (.string ⟨(cat C (decB z)).toArray⟩) W := fun W => add_cat W _ _ (by omega)
   clear hz hlen hlen' hl1 hce
   go_wp2_with (go_at_call 138; refine (dec_any _ hin.1 hin.2).mono ?_; rintro e w' ⟨rfl, rfl⟩)
   go_roundw
   case rel => exact ⟨k + 1, by omega, by go_num, by rw [HS.out], trivial⟩
   case measure => simp [intOf]; omega
  ·obtain rfl : k = xs.length := by omega
   have HF : Hid (xs.take xs.length = xs) := List.take_length
   go_wp2_with fail
   go_ret
   exact ⟨by rw [HF.out]; rfl, rfl⟩
end Go.Proofs.YtggelmbnliajeaaGreatDoor
