/-
Contracts: slices.Clone, an instance in new memory.
Contracts: atoms that hold; the greatest number of a row.
Plain mathematics: the lists of tuples that a finder of operations looks at; which are due at each place; whether they go.
Plain mathematics of the search: the lists of values that begin with some and go all the way, in order; what a listener is told of them. No program is named here.
Readings that avoid some blocks; a search's own data; what a listener keeps and touches; an append to a full row. No program is named here.
A row of rows whose elements point into older memory, built by appends to its own elements; what it reads as. No program is named here.
Memory of a search for operations: blocks that may be written, as a property; rows whose data lie in such blocks; a row cut short; rows of truth values; pointers to sets. No program is named here.
Contracts: a finder's data; whether what is due goes.
Contracts: the search for operations, told to a listener.
Contracts: a row of one number so many times (slices.Repeat, for the few lengths that occur).
Small lemmas of lists of tuples that both searches use. No program is named here.
 A finder's data while they are made: rows of lists that are due, each a row of its own, and a row of sets; what each append keeps. No program is named here.
A region that draws its order: what may come up when two or three may; two boxes that are filled last. No program is named here.
Contracts: a finder, made. (Its first region is printed by gen_nf.py.)
Contracts: the reference's search for operations: its data; the next value at a place; whether the conditions hold.
Contracts: the reference's next operation.
 Contracts: the reference's search for operations: the conditions of a relation.
Contracts: how many lists a finder looks at; the code of a template and an arity; polymorphisms counted, the program's.
 Contracts: the reference's search for operations, begun. (The orders of its region are printed by gen_bg.py.)
 Contracts: polymorphisms counted, the reference's; whether there is but one, both sides.
 Contracts: whether there is but one polymorphism of one place, both sides.
 Contracts: the operations that a search finds, listed: the program's listener, and the reference's.
Contracts: whether an operation breaks a relation, the program's.
Contracts: whether an operation is a polymorphism, both sides.
Contracts: the relation of all tuples for which something is so.
Plain mathematics: lists of digits in order; the tuples of a relation made by number are in order.
Plain: the operations that a search lists are those that keep a template; how many are counted; projections and compositions keep what is kept. No program is named here.
Choices from bytes: what the source of choices is; its contracts say what a choice's bounds are, not which one it is.
Choices from bytes: a drawn relation, a drawn template.
Choices from bytes: a drawn template.
Choices from bytes: a drawn template of few tuples.
-/
import Derived.Test.YtnhdohednekhjaaGreatDoorQAB
import Derived.Deep.RegionLaw
import Derived.Test.YtnhdohednekhjaaGreatDoorQAA
import Derived.Deep.CutRange
import Derived.Laws.CopyOwn
import Derived.Deep.LoopGhost
namespace Go.Proofs.YtnhdohednekhjaaGreatDoor
open Go.RowKit Go.Sort
set_option maxHeartbeats 800000 in
theorem Clone_any (w : World) {v : Value} {xs : List Int} (h : intsT.Rd w [v] xs) (hlen : xs.length ≤ 1000000) :
  Calls Tryz.prog 98 #[v] w (RetS intsT w xs) := by
 have hx := h
 obtain ⟨ad, cap, rfl⟩ := rd_slice h
 have HX := Lib.hid hx
 have hnil := fun w o m c => Lib.run_eql_slice_nil (P := Tryz.prog) w 48 2 o m c 0 0 Tryz.underlying48
 rcases Nat.eq_zero_or_pos xs.length with h0 | h0
 ·obtain rfl := List.eq_nil_of_length_eq_zero h0
  clear h hx h0 HX
  cases ad
  ·go_enter Tryz.func98, Tryz.ntmps98
   go_wp2_with fail
   go_ret
   exact ⟨_, rfl, fr_nil, Below.refl _ _⟩
  ·go_enter Tryz.func98, Tryz.ntmps98
   go_wp2_with fail
   go_ret
   exact ⟨_, rfl, fr_nil, bA⟩
 ·obtain ⟨_, _, e1, -, -, hc⟩ := ints_ex h
  simp only [List.cons.injEq, Value.slice.injEq, and_true, true_and] at e1
  obtain ⟨rfl, rfl⟩ := e1
  obtain ⟨b, o, rfl, -⟩ := hc h0
  clear h hx hc
  have HB := Lib.hid (Bl.lit0 (E := Ty.int) (e := 2) (base := w.heap.size) (w := w) (Nat.le_refl _))
  go_enter Tryz.func98, Tryz.ntmps98
  go_wp2_with (refine wpList_appI _ rfl _ _ 48 2 rfl elInt rfl HB.out rfl (HX.out.below bA) h0 (by simp; omega) (by decide) (by omega) (by simp) ?_; intro v1 w1 hB1 hg1 _)
  have HB1 := Lib.hid (hB1.fr (by unfold capMax; simp; omega))
  have hb1 : Below w.heap.size w w1 := (bA (w := w)).grown hg1 (by simp) (fun k hk => HB.out.own hk)
  clear hB1
  go_wp2_with fail
  go_ret
  exact ⟨_, rfl, HB1.out, hb1⟩
theorem set2_cells {w : World} {b : Nat} {x y u v : Value} (h0 : w.cell? ⟨b, 0, none⟩ = some u) (h1 : w.cell? ⟨b, 1, none⟩ = some v) :
  ((w.setCell ⟨b, 0, none⟩ x).setCell ⟨b, 1, none⟩ y).cell? ⟨b, 0, none⟩ = some x ∧ ((w.setCell ⟨b, 0, none⟩ x).setCell ⟨b, 1, none⟩ y).cell? ⟨b, 1, none⟩ = some y :=
 ⟨(World.cell?_setCell_other _ _ _ _ (by simp)).trans (World.cell?_setCell_same _ _ _ h0), World.cell?_setCell_same _ _ _ ((World.cell?_setCell_other _ _ _ _ (by simp)).trans h1)⟩
theorem fr_set2 {α : Type} {E : Ty α} {base : Nat} {w : World} {cs : List Value} {x : α} {b : Nat} {u v : Value} (h : E.Fr base w cs x) (ha : b < base) : E.Fr base ((w.setCell ⟨b, 0, none⟩ u).setCell ⟨b, 1, none⟩ v) cs x := (h.set (a := ⟨b, 0, none⟩) ha).set (a := ⟨b, 1, none⟩) ha
end Go.Proofs.YtnhdohednekhjaaGreatDoor
namespace Go.Proofs.YtnhdohednekhjaaGreatDoor
open Go.RowKit Go.Sort
def topI (xs : List Int) : Int := xs.foldl max 0
end Go.Proofs.YtnhdohednekhjaaGreatDoor
namespace Go.Proofs.YtnhdohednekhjaaGreatDoor
open Go.RowKit Go.Sort
abbrev Tpl := Int × List (Int × List (List Int))
/-- the truth values of a template's relations -/
def insF (t : Tpl) : List (List Bool) := t.2.map fun r => seenL t.1 (t.1 ^ r.1.toNat).toNat r.2
end Go.Proofs.YtnhdohednekhjaaGreatDoor
namespace Go.Proofs.YtnhdohednekhjaaGreatDoor
section
variable {s m k : Nat} {sure : List Int → Bool} {vals : List Int}
end
section
variable {go : List (List Int) → Bool} {told xs ys : List (List Int)} {x : List Int}
end
end Go.Proofs.YtnhdohednekhjaaGreatDoor
namespace Go.Proofs.YtnhdohednekhjaaGreatDoor
open Go.RowKit
/-- read in blocks for which something is so -/
def Ty.RdP {α : Type} (E : Ty α) (ok : Nat → Prop) (w : World) (cs : List Value) (x : α) : Prop := ∃ fp, E.rd w cs x fp ∧ ∀ k ∈ fp, ok k
section
variable {α : Type} {E : Ty α} {ok ok' : Nat → Prop} {w w' : World} {cs : List Value} {x : α}
theorem Ty.RdP.rd (h : E.RdP ok w cs x) : E.Rd w cs x := let ⟨fp, h, _⟩ := h; ⟨fp, h⟩
theorem Ty.RdP.mono (h : E.RdP ok w cs x) (hk : ∀ k, k < w.heap.size → ok k → ok' k) : E.RdP ok' w cs x := let ⟨fp, h, hf⟩ := h; ⟨fp, h, fun k hk' => hk k (E.lt h k hk') (hf k hk')⟩
theorem Ty.Rd.P (h : E.Rd w cs x) : E.RdP (fun k => k < w.heap.size) w cs x := let ⟨fp, h⟩ := h; ⟨fp, h, E.lt h⟩
theorem Ty.RdP.tch {O : List Nat} (h : E.RdP ok w cs x) (ht : TchF O w w') (hO : ∀ k, k < w.heap.size → ok k → k ∉ O) : E.RdP ok w' cs x :=
 let ⟨fp, h, hf⟩ := h; ⟨fp, E.same h (ht.same fun k hk => ⟨E.lt h k hk, hO k (E.lt h k hk) (hf k hk)⟩), hf⟩
theorem Ty.RdP.below (h : E.RdP ok w cs x) (hb : Below w.heap.size w w') : E.RdP ok w' cs x := h.tch (O := []) (Below.tchF hb []) (fun _ _ _ => List.not_mem_nil)
theorem Ty.rd.below {fp : List Nat} (h : E.rd w cs x fp) (hb : Below w.heap.size w w') : E.rd w' cs x fp := E.same h (Same.below hb (E.lt h))
theorem Ty.rd.tch {fp O : List Nat} (h : E.rd w cs x fp) (ht : TchF O w w') (hO : ∀ k ∈ fp, k ∉ O) : E.rd w' cs x fp := E.same h (ht.same fun k hk => ⟨E.lt h k hk, hO k hk⟩)
end
theorem TchF.then {O O' : List Nat} {a b c : World} (h : TchF O a b) (h' : TchF O' b c) (hO : ∀ k ∈ O', k ∈ O ∨ a.heap.size ≤ k) : TchF O a c :=
 ⟨h'.os.trans h.os, h'.tape.trans h.tape, h'.output.trans h.output, Nat.le_trans h.size h'.size, fun k hk hn => (h'.block k (Nat.lt_of_lt_of_le hk h.size) fun hm => by
  rcases hO k hm with hm | hm
  ·exact hn hm
  ·omega).trans (h.block k hk hn)⟩
theorem TchF.below {O : List Nat} {a b : World} {B : Nat} (h : TchF O a b) (hB : B ≤ a.heap.size) (hO : ∀ k ∈ O, B ≤ k) : Below B a b :=
 ⟨h.os, h.tape, h.output, h.size, fun k hk => h.block k (Nat.lt_of_lt_of_le hk hB) fun hm => Nat.not_lt.2 (hO k hm) hk⟩
abbrev duesT : Ty (List (List (Int × List Int))) := Ty.slice opsT
/-- a search's data, at block bs: the template, how many variables, the atoms that are due at each -/
def Sv (ok : Nat → Prop) (w : World) (bs : Nat) (t : Int × List (Int × List (List Int))) (vars : Int) (due : List (List (Int × List Int))) : Prop :=
 bs < w.heap.size ∧ ok bs ∧ ∃ v1 v3, w.cell? ⟨bs, 0, none⟩ = some (.int .i64 t.1) ∧ w.cell? ⟨bs, 1, none⟩ = some v1 ∧ w.cell? ⟨bs, 2, none⟩ = some (.int .i64 vars) ∧ w.cell? ⟨bs, 3, none⟩ = some v3 ∧ tplT.RdP ok w [.int .i64 t.1, v1] t ∧ duesT.RdP ok w [v3] due
section
variable {ok ok' : Nat → Prop} {w w' : World} {bs : Nat} {t : Int × List (Int × List (List Int))} {vars : Int} {due : List (List (Int × List Int))}
theorem Sv.tch {O : List Nat} (h : Sv ok w bs t vars due) (ht : TchF O w w') (hO : ∀ k, k < w.heap.size → ok k → k ∉ O) : Sv ok w' bs t vars due := by
 obtain ⟨h1, h2, v1, v3, c0, c1, c2, c3, h3, h4⟩ := h
 have hn := hO bs h1 h2
 exact ⟨Nat.lt_of_lt_of_le h1 ht.size, h2, v1, v3, (ht.cell h1 hn).trans c0, (ht.cell h1 hn).trans c1, (ht.cell h1 hn).trans c2, (ht.cell h1 hn).trans c3, h3.tch ht hO, h4.tch ht hO⟩
theorem Sv.below (h : Sv ok w bs t vars due) (hb : Below w.heap.size w w') : Sv ok w' bs t vars due := h.tch (O := []) (Below.tchF hb []) (fun _ _ _ => List.not_mem_nil)
theorem Sv.mono (h : Sv ok w bs t vars due) (hk : ∀ k, k < w.heap.size → ok k → ok' k) : Sv ok' w bs t vars due := by
 obtain ⟨h1, h2, v1, v3, c0, c1, c2, c3, h3, h4⟩ := h
 exact ⟨h1, hk _ h1 h2, v1, v3, c0, c1, c2, c3, h3.mono hk, h4.mono hk⟩
end
/-- a listener of lists of values: what it keeps (I), and the blocks that it may write (O) -/
structure Yl (P : Program) (g : FuncId) (caps : Array Value) (go : List (List Int) → Bool) (I : List (List Int) → List Nat → World → Prop) : Prop where
 stable : ∀ {told O w w'}, I told O w → Below w.heap.size w w' → I told O w'
 lt : ∀ {told O w}, I told O w → ∀ k ∈ O, k < w.heap.size
 step : ∀ {told O w0 w u x}, I told O w0 → Below w0.heap.size w0 w → intsT.Fr w0.heap.size w [u] x → x.length ≤ 10 → told.length ≤ 2000000 →
  Calls P g (#[u] ++ caps) w fun e w' => e = .returned (.bool (go (told ++ [x]))) ∧ ∃ O', I (told ++ [x]) O' w' ∧ TchF O w w' ∧ ∀ k ∈ O', k ∈ O ∨ w0.heap.size ≤ k
end Go.Proofs.YtnhdohednekhjaaGreatDoor
namespace Go.Proofs.YtnhdohednekhjaaGreatDoor
open Go.RowKit
theorem slice_exP {α : Type} {E : Ty α} {ok : Nat → Prop} {w : World} {cs : List Value} {xs : List α} (h : (Ty.slice E).RdP ok w cs xs) :
  ∃ ad cap, cs = [.slice ad xs.length cap] ∧ xs.length ≤ cap ∧ xs.length ≤ 140737488351232 ∧
   (0 < xs.length → ∃ b o, ad = some ⟨b, o, none⟩ ∧ b < w.heap.size ∧ ok b ∧ ∀ i (h : i < xs.length), ∃ cs, E.RdP ok w cs xs[i] ∧ ∀ j (hj : j < cs.length), w.cell? ⟨b, o + i * E.sz + j, none⟩ = some cs[j]) := by
 obtain ⟨fp, ⟨ad, cap, rfl, h1, h2, h3⟩, hok⟩ := h
 refine ⟨ad, cap, rfl, h1, h2, fun hp => ?_⟩
 rcases h3 with h3 | ⟨h3, b, o, fps, rfl, hb, rfl, h4⟩
 ·omega
 ·exact ⟨b, o, rfl, hb, hok b (List.mem_cons_self ..), fun i hi => let ⟨cs, h5, h6⟩ := h4 i hi; ⟨cs, ⟨_, h5, fun k hk => hok k (List.mem_cons_of_mem _ (List.mem_flatMap.2 ⟨i, by simpa using hi, hk⟩))⟩, h6⟩⟩
/-- from its elements -/
theorem slice_mkP {α : Type} {E : Ty α} {ok : Nat → Prop} {w : World} {ad : Option Addr} {n cap : Nat} {xs : List α} (hn : n = xs.length) (h1 : n ≤ cap) (h2 : n ≤ capMax)
  (h : 0 < n → ∃ b o, ad = some ⟨b, o, none⟩ ∧ b < w.heap.size ∧ ok b ∧ ∀ i (h : i < xs.length), ∃ cs, E.RdP ok w cs xs[i] ∧ ∀ j (hj : j < cs.length), w.cell? ⟨b, o + i * E.sz + j, none⟩ = some cs[j]) :
  (Ty.slice E).RdP ok w [.slice ad n cap] xs := by
 subst hn
 rcases Nat.eq_zero_or_pos xs.length with h0 | h0
 ·exact ⟨[], ⟨ad, cap, rfl, h1, h2, .inl ⟨h0, rfl⟩⟩, fun k hk => by cases hk⟩
 ·obtain ⟨b, o, rfl, hb, hok, he⟩ := h h0
  have key : ∀ i, ∃ cf : List Value × List Nat, ∀ (h : i < xs.length), E.rd w cf.1 xs[i] cf.2 ∧ (∀ k ∈ cf.2, ok k) ∧ ∀ j (hj : j < cf.1.length), w.cell? ⟨b, o + i * E.sz + j, none⟩ = some cf.1[j] := fun i => by
   by_cases hi : i < xs.length
   ·obtain ⟨cs, ⟨fp, h3, h4⟩, h5⟩ := he i hi
    exact ⟨(cs, fp), fun _ => ⟨h3, h4, h5⟩⟩
   ·exact ⟨([], []), fun h => absurd h hi⟩
  obtain ⟨F, hF⟩ := Classical.axiomOfChoice key
  refine ⟨b :: (List.range xs.length).flatMap fun i => (F i).2, ⟨_, cap, rfl, h1, h2, .inr ⟨h0, b, o, fun i => (F i).2, rfl, hb, rfl, fun i hi => ⟨(F i).1, (hF i hi).1, (hF i hi).2.2⟩⟩⟩, fun k hk => ?_⟩
  rcases List.mem_cons.1 hk with rfl | hk
  ·exact hok
  ·obtain ⟨i, hi, hk⟩ := List.mem_flatMap.1 hk
   exact (hF i (by simpa using hi)).2.1 k hk
/-- what a value of a row's cells reads as -/
def pvR (ok : Nat → Prop) (w : World) (z : (Int × List Int) × (Int × Value)) : Prop := z.2.1 = z.1.1 ∧ I64 z.1.1 ∧ intsT.RdP ok w [z.2.2] z.1.2
theorem pvR.below {ok : Nat → Prop} {w w' : World} {z : (Int × List Int) × (Int × Value)} (h : pvR ok w z) (hb : Below w.heap.size w w') : pvR ok w' z := ⟨h.1, h.2.1, h.2.2.below hb⟩
theorem pvR.mono {ok ok' : Nat → Prop} {w : World} {z : (Int × List Int) × (Int × Value)} (h : pvR ok w z) (hk : ∀ k, k < w.heap.size → ok k → ok' k) : pvR ok' w z := ⟨h.1, h.2.1, h.2.2.mono hk⟩
theorem Bl.ge {α : Type} {E : Ty α} {e base top : Nat} {w : World} {v : Value} {ys : List α} (h : Bl E e base top w v ys) {g : Nat} (hg : v.ownBlock = some g) : base ≤ g := by
 obtain ⟨L, fps, h1, _⟩ := h
 exact (h1.lt g hg).1
theorem Bl.lt_top {α : Type} {E : Ty α} {e base top : Nat} {w : World} {v : Value} {ys : List α} (h : Bl E e base top w v ys) {g : Nat} (hg : v.ownBlock = some g) : g < top := by
 obtain ⟨L, fps, _, _, _, _, h5, _⟩ := h
 exact h5 g hg
/-- a datum that does not lie in one block -/
def Ty.off {α : Type} (E : Ty α) (bx : Nat) : Ty α where
 sz := E.sz
 rd := fun w cs x fp => E.rd w cs x fp ∧ bx ∉ fp
 len := fun h => E.len h.1
 same := fun h hs => ⟨E.same h.1 hs, h.2⟩
 lt := fun h => E.lt h.1
 one := fun h => E.one h.1
theorem pv_same {e base top top' : Nat} {w w' : World} {v : Value} {ys : List (Int × Value)} (h : Bl pvT e base top w v ys) (hs : ∀ b, v.ownBlock = some b → w'.heap[b]? = w.heap[b]?) (ht : top ≤ top') : Bl pvT e base top' w' v ys := by
 obtain ⟨L, fps, h1, h2, h3, h4, h5, h6⟩ := h
 have hnil : ∀ b, b ∉ flat fps ys.length := by
  intro b hb
  obtain ⟨i, hi, hb⟩ := List.mem_flatMap.1 hb
  obtain ⟨cs, ⟨cs', _, _, _, _, hf⟩, _⟩ := h2 i (by simpa using hi)
  rw [hf] at hb
  cases hb
 refine ⟨L, fps, ⟨h1.1, ?_⟩, fun i hi => ?_, h3, fun b hb => absurd hb (hnil b), fun g hg => Nat.lt_of_lt_of_le (h5 g hg) ht, fun b hb => absurd hb (hnil b)⟩
 ·rcases h1.2 with h | ⟨g, cap, cur, rfl, hg, hh, r⟩
  ·exact .inl h
  ·exact .inr ⟨g, cap, cur, rfl, hg, by rw [hs g rfl]; exact hh, r⟩
 ·obtain ⟨cs, h7, h8⟩ := h2 i hi
  exact ⟨cs, h7, h8⟩
/-- a row of n rows at block g: its cells are us; each is a row of the call's own, from base on, and no two share a block -/
def DU (eA eR base top : Nat) (w : World) (g n : Nat) (us : Nat → Value) (Ls : Nat → List (Int × Value)) : Prop :=
 w.ownsRow g eR 1 (.slice (some ⟨g, 0, none⟩) n n) n ((List.range n).map us) ∧ g < base ∧ (∀ v, v < n → Bl pvT eA base top w (us v) (Ls v)) ∧ ∀ v, v < n → ∀ b, (us v).ownBlock = some b → ∀ v', v' < n → v' ≠ v → (us v').ownBlock ≠ some b
section
variable {eA eR base top g n : Nat} {w w' : World} {us : Nat → Value} {Ls : Nat → List (Int × Value)}
theorem owns_same {b e sz : Nat} {g n cap : Nat} {xs : List Value} (h : w.ownsRow b e sz (.slice (some ⟨g, 0, none⟩) n cap) n xs) (hs : w'.heap[g]? = w.heap[g]?) : w'.ownsRow b e sz (.slice (some ⟨g, 0, none⟩) n cap) n xs := by
 refine ⟨h.1, ?_⟩
 rcases h.2 with h | ⟨g', cap, cur, hg', hg, hh, r⟩
 ·exact .inl h
 ·simp only [Value.slice.injEq, Option.some.injEq, Addr.mk.injEq, and_true, true_and] at hg'
  obtain ⟨rfl, rfl⟩ := hg'
  exact .inr ⟨g, _, cur, rfl, hg, by rw [hs]; exact hh, r⟩
theorem DU.lt (h : DU eA eR base top w g n us Ls) : g < w.heap.size := (h.1.lt g rfl).2
theorem DU.cell (h : DU eA eR base top w g n us Ls) {j : Nat} (hj : j < n) : w.cell? ⟨g, j, none⟩ = some (us j) := by
 rw [World.ownsRow.cellAt h.1 j (by omega)]
 simp [hj]
theorem DU.free (h : DU eA eR base top w g n us Ls) (j : Nat) : w.frozen? ⟨g, j, none⟩ = false := World.ownsRow.frozenAt h.1 j
theorem DU.below {B : Nat} (h : DU eA eR base top w g n us Ls) (hb : Below B w w') (ht : top ≤ B) (hB : base ≤ B) : DU eA eR base top w' g n us Ls :=
 ⟨owns_same h.1 (hb.block g (by have := h.2.1; omega)), h.2.1, fun v hv => (h.2.2.1 v hv).below hb ht, h.2.2.2⟩
theorem DU.mono {top' : Nat} (h : DU eA eR base top w g n us Ls) (ht : top ≤ top') : DU eA eR base top' w g n us Ls := ⟨h.1, h.2.1, fun v hv => (h.2.2.1 v hv).mono ht, h.2.2.2⟩
end
end Go.Proofs.YtnhdohednekhjaaGreatDoor
namespace Go.Proofs.YtnhdohednekhjaaGreatDoor
open Go.RowKit
/-- only blocks of which O holds are written, and new ones -/
structure TchP (O : Nat → Prop) (w w' : World) : Prop where
 os : w'.os = w.os
 tape : w'.tape = w.tape
 output : w'.output = w.output
 size : w.heap.size ≤ w'.heap.size
 block : ∀ k, k < w.heap.size → ¬ O k → w'.heap[k]? = w.heap[k]?
section
variable {O O' : Nat → Prop} {w w' w'' : World}
theorem TchP.refl (O : Nat → Prop) (w : World) : TchP O w w := ⟨rfl, rfl, rfl, Nat.le_refl _, fun _ _ _ => rfl⟩
theorem TchP.of_below (h : Below w.heap.size w w') (O : Nat → Prop) : TchP O w w' := ⟨h.os, h.tape, h.output, h.size, fun k hk _ => h.block k hk⟩
theorem TchP.then (h : TchP O w w') (h' : TchP O' w' w'') (hO : ∀ k, k < w.heap.size → O' k → O k) : TchP O w w'' :=
 ⟨h'.os.trans h.os, h'.tape.trans h.tape, h'.output.trans h.output, Nat.le_trans h.size h'.size, fun k hk hn => (h'.block k (Nat.lt_of_lt_of_le hk h.size) fun hm => hn (hO k hk hm)).trans (h.block k hk hn)⟩
theorem TchP.mono (h : TchP O w w') (hO : ∀ k, k < w.heap.size → O k → O' k) : TchP O' w w' := ⟨h.os, h.tape, h.output, h.size, fun k hk hn => h.block k hk fun hm => hn (hO k hk hm)⟩
theorem TchP.below {B : Nat} (h : TchP O w w') (hB : B ≤ w.heap.size) (hO : ∀ k, k < B → ¬ O k) : Below B w w' := ⟨h.os, h.tape, h.output, h.size, fun k hk => h.block k (Nat.lt_of_lt_of_le hk hB) (hO k hk)⟩
theorem TchP.cell (h : TchP O w w') {b i : Nat} (hb : b < w.heap.size) (hn : ¬ O b) : w'.cell? ⟨b, i, none⟩ = w.cell? ⟨b, i, none⟩ := World.cell?_of_block (a := ⟨b, i, none⟩) (h.block b hb hn)
theorem TchP.frozen (h : TchP O w w') {b i : Nat} (hb : b < w.heap.size) (hn : ¬ O b) : w'.frozen? ⟨b, i, none⟩ = w.frozen? ⟨b, i, none⟩ := World.frozen?_of_block (a := ⟨b, i, none⟩) (h.block b hb hn)
theorem TchP.set {b i : Nat} {v : Value} (hO : O b) : TchP O w (w.setCell ⟨b, i, none⟩ v) := ⟨rfl, rfl, rfl, by simp [World.setCell], fun k _ hn => Below.heap_setCell _ _ _ _ fun e => hn (by simp at e; rw [e]; exact hO)⟩
theorem TchP.grown {row : Option Nat} (h : w.grownBy w' row) (hO : ∀ k, row = some k → O k) : TchP O w w' := ⟨h.os, h.tape, h.output, h.size, fun k hk hn => h.block k hk fun e => hn (hO k e.symm)⟩
theorem Ty.RdP.tchP {α : Type} {E : Ty α} {ok : Nat → Prop} {cs : List Value} {x : α} (h : E.RdP ok w cs x) (ht : TchP O w w') (hO : ∀ k, k < w.heap.size → ok k → ¬ O k) : E.RdP ok w' cs x :=
 let ⟨fp, h, hf⟩ := h; ⟨fp, E.same h (fun k hk => ht.block k (E.lt h k hk) (hO k (E.lt h k hk) (hf k hk))), hf⟩
theorem pvR.tchP {ok : Nat → Prop} {z : (Int × List Int) × (Int × Value)} (h : pvR ok w z) (ht : TchP O w w') (hO : ∀ k, k < w.heap.size → ok k → ¬ O k) : pvR ok w' z := ⟨h.1, h.2.1, h.2.2.tchP ht hO⟩
end
/-- a datum that lies in blocks of which O holds -/
def Ty.on {α : Type} (E : Ty α) (O : Nat → Prop) : Ty α where
 sz := E.sz
 rd := fun w cs x fp => E.rd w cs x fp ∧ ∀ k ∈ fp, O k
 len := fun h => E.len h.1
 same := fun h hs => ⟨E.same h.1 hs, h.2⟩
 lt := fun h => E.lt h.1
 one := fun h => E.one h.1
section
variable {α : Type} {E : Ty α} {O O' : Nat → Prop} {e base top : Nat} {w w' : World} {v : Value} {ys : List α}
theorem on_same (h : Bl (E.on O) e base top w v ys) (hv : ∀ g, v.ownBlock = some g → O g) (hs : ∀ k, k < w.heap.size → O k → w'.heap[k]? = w.heap[k]?) : Bl (E.on O) e base top w' v ys := by
 obtain ⟨L, fps, h1, h2, h3, h4, h5, h6⟩ := h
 have hS : Same (flat fps ys.length) w w' := fun k hk => by
  obtain ⟨i, hi, hk⟩ := List.mem_flatMap.1 hk
  obtain ⟨cs, h7, _⟩ := h2 i (by simpa using hi)
  exact hs k (E.lt h7.1 k hk) (h7.2 k hk)
 refine ⟨L, fps, ⟨h1.1, ?_⟩, fun i hi => ?_, h3, h4, h5, h6.same hS⟩
 ·rcases h1.2 with h | ⟨g, cap, cur, rfl, hg, hh, r⟩
  ·exact .inl h
  ·exact .inr ⟨g, cap, cur, rfl, hg, by rw [hs g (lt_of_block hh) (hv g rfl)]; exact hh, r⟩
 ·obtain ⟨cs, h7, h8⟩ := h2 i hi
  exact ⟨cs, (E.on O).same h7 (fun k hk => hS k (List.mem_flatMap.2 ⟨i, by simpa using hi, hk⟩)), h8⟩
/-- a row of numbers: all that it hangs on is its own block -/
theorem bl_int_same {top' : Nat} {ys : List Int} (h : Bl Ty.int e base top w v ys) (hs : ∀ b, v.ownBlock = some b → w'.heap[b]? = w.heap[b]?) (ht : top ≤ top') : Bl Ty.int e base top' w' v ys := by
 obtain ⟨L, fps, h1, h2, h3, h4, h5, h6⟩ := h
 have hnil : ∀ b, b ∉ flat fps ys.length := by
  intro b hb
  obtain ⟨i, hi, hb⟩ := List.mem_flatMap.1 hb
  obtain ⟨cs, ⟨_, _, hf⟩, _⟩ := h2 i (by simpa using hi)
  rw [hf] at hb
  cases hb
 refine ⟨L, fps, ⟨h1.1, ?_⟩, fun i hi => ?_, h3, fun b hb => absurd hb (hnil b), fun g hg => Nat.lt_of_lt_of_le (h5 g hg) ht, fun b hb => absurd hb (hnil b)⟩
 ·rcases h1.2 with h | ⟨g, cap, cur, rfl, hg, hh, r⟩
  ·exact .inl h
  ·exact .inr ⟨g, cap, cur, rfl, hg, by rw [hs g rfl]; exact hh, r⟩
 ·obtain ⟨cs, h7, h8⟩ := h2 i hi
  exact ⟨cs, h7, h8⟩
/-- a row of values as they are -/
theorem bl_val_same {top' : Nat} {ys : List Value} (h : Bl Ty.val e base top w v ys) (hs : ∀ b, v.ownBlock = some b → w'.heap[b]? = w.heap[b]?) (ht : top ≤ top') : Bl Ty.val e base top' w' v ys := by
 obtain ⟨L, fps, h1, h2, h3, h4, h5, h6⟩ := h
 have hnil : ∀ b, b ∉ flat fps ys.length := by
  intro b hb
  obtain ⟨i, hi, hb⟩ := List.mem_flatMap.1 hb
  obtain ⟨cs, ⟨_, _, hf⟩, _⟩ := h2 i (by simpa using hi)
  rw [hf] at hb
  cases hb
 refine ⟨L, fps, ⟨h1.1, ?_⟩, fun i hi => ?_, h3, fun b hb => absurd hb (hnil b), fun g hg => Nat.lt_of_lt_of_le (h5 g hg) ht, fun b hb => absurd hb (hnil b)⟩
 ·rcases h1.2 with h | ⟨g, cap, cur, rfl, hg, hh, r⟩
  ·exact .inl h
  ·exact .inr ⟨g, cap, cur, rfl, hg, by rw [hs g rfl]; exact hh, r⟩
 ·obtain ⟨cs, h7, h8⟩ := h2 i hi
  exact ⟨cs, h7, h8⟩
end
abbrev boolsT : Ty (List Bool) := Ty.slice Ty.bool
/-- a row of values as they are, each of which reads as a datum of one cell -/
theorem rows_ofP {α : Type} {E : Ty α} {ok : Nat → Prop} {w : World} {v : Value} {vs : List Value} {ts : List α} (hE : E.sz = 1) (h : (Ty.slice Ty.val).RdP ok w [v] vs) (hl : vs.length = ts.length) (hr : ∀ i (h : i < vs.length) (h' : i < ts.length), E.RdP ok w [vs[i]] ts[i]) : (Ty.slice E).RdP ok w [v] ts := by
 obtain ⟨ad, cap, hv, h1, h2, h3⟩ := slice_exP h
 obtain rfl : v = _ := by simpa using hv
 refine slice_mkP hl h1 h2 fun h0 => ?_
 obtain ⟨b, o, rfl, hb, hok, he⟩ := h3 h0
 refine ⟨b, o, rfl, hb, hok, fun i hi => ?_⟩
 obtain ⟨cs, ⟨fp, ⟨rfl, _, _⟩, hf⟩, h6⟩ := he i (by omega)
 refine ⟨_, hr i (by omega) hi, fun j hj => ?_⟩
 have h7 := h6 j hj
 rw [hE]
 exact h7
theorem bl_val_rdP {e base top : Nat} {w : World} {v : Value} {vs : List Value} {ok : Nat → Prop} (h : Bl Ty.val e base top w v vs) (hl : vs.length ≤ capMax) (hv : ∀ g, v.ownBlock = some g → ok g) : (Ty.slice Ty.val).RdP ok w [v] vs := by
 obtain ⟨fp, h1, -, -, -⟩ := h.fr hl
 refine ⟨fp, h1, fun k hk => ?_⟩
 obtain ⟨ad, cap, hv', -, -, h3⟩ := h1
 obtain rfl : v = _ := by simpa using hv'
 rcases h3 with ⟨_, rfl⟩ | ⟨_, b, o, fps, rfl, _, rfl, h4⟩
 ·cases hk
 ·rcases List.mem_cons.1 hk with rfl | hk
  ·exact hv _ rfl
  ·obtain ⟨i, hi, hk⟩ := List.mem_flatMap.1 hk
   obtain ⟨cs, ⟨_, _, hf⟩, _⟩ := h4 i (by simpa using hi)
   rw [hf] at hk
   cases hk
/-- a pointer to a box whose third cell is a row of truth values -/
def Ty.setp : Ty (List Bool) where
 sz := 1
 rd := fun w cs L fp => ∃ bx v fp', cs = [.pointer (some ⟨bx, 0, none⟩)] ∧ bx < w.heap.size ∧ w.cell? ⟨bx, 2, none⟩ = some v ∧ boolsT.rd w [v] L fp' ∧ fp = bx :: fp'
 len := by rintro _ _ _ _ ⟨_, _, _, rfl, _⟩; rfl
 same := by
  rintro w w' _ L _ ⟨bx, v, fp', rfl, h1, h2, h3, rfl⟩ hs
  have hb := hs bx (List.mem_cons_self ..)
  refine ⟨bx, v, fp', rfl, ?_, (World.cell?_of_block (a := ⟨bx, 2, none⟩) hb).trans h2, boolsT.same h3 (fun k hk => hs k (List.mem_cons_of_mem _ hk)), rfl⟩
  rcases Nat.lt_or_ge bx w'.heap.size with h' | h'
  ·exact h'
  ·rw [Array.getElem?_eq_none h', Array.getElem?_eq_getElem h1] at hb
   cases hb
 lt := by
  rintro w _ L _ ⟨bx, v, fp', rfl, h1, h2, h3, rfl⟩ k hk
  rcases List.mem_cons.1 hk with rfl | hk
  ·exact h1
  ·exact boolsT.lt h3 k hk
 one := by rintro _ _ _ _ ⟨_, _, _, rfl, _⟩ u hu; simp at hu; subst hu; rfl
end Go.Proofs.YtnhdohednekhjaaGreatDoor
namespace Go.Proofs.YtnhdohednekhjaaGreatDoor
open Go.RowKit Go.Sort
/-- what a finder only reads: at block bs -/
def Fd (ok : Nat → Prop) (w : World) (bs : Nat) (t : Tpl) (ar : Int) (due : List (List (Int × List Int))) (fx : List Int) : Prop :=
 bs < w.heap.size ∧ ∃ v3 v4 v5, w.cell? ⟨bs, 0, none⟩ = some (.int .i64 t.1) ∧ w.cell? ⟨bs, 2, none⟩ = some (.int .i64 ar) ∧ w.cell? ⟨bs, 3, none⟩ = some v3 ∧ w.cell? ⟨bs, 4, none⟩ = some v4 ∧ w.cell? ⟨bs, 5, none⟩ = some v5 ∧
  duesT.RdP ok w [v3] due ∧ (Ty.slice boolsT).RdP ok w [v4] (insF t) ∧ intsT.RdP ok w [v5] fx
section
variable {ok ok' : Nat → Prop} {w w' : World} {bs : Nat} {t : Tpl} {ar : Int} {due : List (List (Int × List Int))} {fx : List Int}
theorem Fd.below (h : Fd ok w bs t ar due fx) (hb : Below w.heap.size w w') : Fd ok w' bs t ar due fx := by
 obtain ⟨h1, v3, v4, v5, c0, c2, c3, c4, c5, h3, h4, h5⟩ := h
 exact ⟨Nat.lt_of_lt_of_le h1 hb.size, v3, v4, v5, (hb.cell (p := ⟨bs, 0, none⟩) h1).trans c0, (hb.cell (p := ⟨bs, 2, none⟩) h1).trans c2, (hb.cell (p := ⟨bs, 3, none⟩) h1).trans c3, (hb.cell (p := ⟨bs, 4, none⟩) h1).trans c4, (hb.cell (p := ⟨bs, 5, none⟩) h1).trans c5, h3.below hb, h4.below hb, h5.below hb⟩
/-- its own last two cells and other blocks may be written -/
theorem Fd.tchP {O : Nat → Prop} (h : Fd ok w bs t ar due fx) (ht : TchP O w w') (hO : ∀ k, k < w.heap.size → ok k → ¬ O k) (hb : ¬ O bs) : Fd ok w' bs t ar due fx := by
 obtain ⟨h1, v3, v4, v5, c0, c2, c3, c4, c5, h3, h4, h5⟩ := h
 exact ⟨Nat.lt_of_lt_of_le h1 ht.size, v3, v4, v5, (ht.cell h1 hb).trans c0, (ht.cell h1 hb).trans c2, (ht.cell h1 hb).trans c3, (ht.cell h1 hb).trans c4, (ht.cell h1 hb).trans c5, h3.tchP ht hO, h4.tchP ht hO, h5.tchP ht hO⟩
theorem Fd.set {i : Nat} {u : Value} (h : Fd ok w bs t ar due fx) (hi : 6 ≤ i) (hO : ¬ ok bs) : Fd ok (w.setCell ⟨bs, i, none⟩ u) bs t ar due fx := by
 obtain ⟨h1, v3, v4, v5, c0, c2, c3, c4, c5, h3, h4, h5⟩ := h
 have hs : TchP (fun k => k = bs) w (w.setCell ⟨bs, i, none⟩ u) := TchP.set rfl
 have hk : ∀ k, k < w.heap.size → ok k → ¬ (k = bs) := fun k _ hk e => hO (e ▸ hk)
 have hc : ∀ j, j < 6 → (w.setCell ⟨bs, i, none⟩ u).cell? ⟨bs, j, none⟩ = w.cell? ⟨bs, j, none⟩ := fun j hj => World.cell?_setCell_other _ _ _ _ (by first | (simp; done) | (simp; omega))
 exact ⟨by simpa [World.setCell] using h1, v3, v4, v5, (hc 0 (by omega)).trans c0, (hc 2 (by omega)).trans c2, (hc 3 (by omega)).trans c3, (hc 4 (by omega)).trans c4, (hc 5 (by omega)).trans c5, h3.tchP hs hk, h4.tchP hs hk, h5.tchP hs hk⟩
theorem Fd.mono (h : Fd ok w bs t ar due fx) (hk : ∀ k, k < w.heap.size → ok k → ok' k) : Fd ok' w bs t ar due fx := by
 obtain ⟨h1, v3, v4, v5, c0, c2, c3, c4, c5, h3, h4, h5⟩ := h
 exact ⟨h1, v3, v4, v5, c0, c2, c3, c4, c5, h3.mono hk, h4.mono hk, h5.mono hk⟩
end
end Go.Proofs.YtnhdohednekhjaaGreatDoor
namespace Go.Proofs.YtnhdohednekhjaaGreatDoor
open Go.RowKit Go.Sort
/-- what a search turns: how many steps, the values so far, in a row of its own -/
def Tb (e base : Nat) (w : World) (bs st : Nat) (v : Value) (vals : List Int) : Prop :=
 w.cell? ⟨bs, 6, none⟩ = some (.int .i64 (st : Int)) ∧ w.cell? ⟨bs, 7, none⟩ = some v ∧ w.frozen? ⟨bs, 6, none⟩ = false ∧ w.frozen? ⟨bs, 7, none⟩ = false ∧ Bl Ty.int e base w.heap.size w v vals
theorem Tb.same {e base : Nat} {w w' : World} {bs st : Nat} {v : Value} {vals : List Int} (h : Tb e base w bs st v vals) (hb : w'.heap[bs]? = w.heap[bs]?) (hs : ∀ b, v.ownBlock = some b → w'.heap[b]? = w.heap[b]?) (hz : w.heap.size ≤ w'.heap.size) : Tb e base w' bs st v vals :=
 let ⟨h1, h2, h3, h4, h5⟩ := h
 ⟨(World.cell?_of_block (a := ⟨bs, 6, none⟩) hb).trans h1, (World.cell?_of_block (a := ⟨bs, 7, none⟩) hb).trans h2, (World.frozen?_of_block (a := ⟨bs, 6, none⟩) hb).trans h3, (World.frozen?_of_block (a := ⟨bs, 7, none⟩) hb).trans h4, bl_int_same h5 hs hz⟩
theorem Tb.below {e base : Nat} {w w' : World} {bs st : Nat} {v : Value} {vals : List Int} (h : Tb e base w bs st v vals) (hl : bs < w.heap.size) (hb : Below w.heap.size w w') : Tb e base w' bs st v vals :=
 h.same (hb.block bs hl) (fun _ hq => hb.block _ (h.2.2.2.2.lt_top hq)) hb.size
/-- a listener of operations: what it keeps (I), and the blocks that are its own (O) -/
structure Yf (P : Program) (ar : Int) (g : FuncId) (caps : Array Value) (yc : List (List Int) → Int) (I : List (List Int) → (Nat → Prop) → World → Prop) : Prop where
 stable : ∀ {told O w w'}, I told O w → (∀ k, k < w.heap.size → O k → w'.heap[k]? = w.heap[k]?) → w.heap.size ≤ w'.heap.size → I told O w'
 lt : ∀ {told O w}, I told O w → ∀ k, O k → k < w.heap.size
 step : ∀ {told O w0 w u x}, I told O w0 → Below w0.heap.size w0 w → intsT.Fr w0.heap.size w [u] x → x.length ≤ 64 → told.length ≤ 2000000 →
  Calls P g (#[.agg #[.int .i64 ar, u]] ++ caps) w fun e w' => e = .returned (.int .i64 (yc (told ++ [x]))) ∧ ∃ O', I (told ++ [x]) O' w' ∧ TchP O w w' ∧ ∀ k, O' k → O k ∨ w0.heap.size ≤ k
/-- how a search leaves memory -/
def SrR (e base : Nat) (ok : Nat → Prop) (bs : Nat) (t : Tpl) (ar : Int) (due : List (List (Int × List Int))) (fx : List Int) (I : List (List Int) → (Nat → Prop) → World → Prop) (w : World) (v : Value) (O : Nat → Prop) (vals : List Int) (R : FR) (w' : World) : Prop :=
 ∃ v' O', Fd ok w' bs t ar due fx ∧ Tb e base w' bs R.2.1 v' vals ∧ I R.2.2 O' w' ∧ (∀ k, O' k → O k ∨ w.heap.size ≤ k) ∧ (∀ k, v'.ownBlock = some k → ¬ O' k ∧ (v.ownBlock = some k ∨ w.heap.size ≤ k)) ∧ TchP (fun k => O k ∨ k = bs ∨ v.ownBlock = some k) w w'
theorem SrR.mk {e base : Nat} {ok : Nat → Prop} {bs : Nat} {t : Tpl} {ar : Int} {due : List (List (Int × List Int))} {fx : List Int} {I : List (List Int) → (Nat → Prop) → World → Prop} {w : World} {v : Value} {O : Nat → Prop} {vals : List Int} {R : FR} {w' : World} (v' : Value) (O' : Nat → Prop)
  (h1 : Fd ok w' bs t ar due fx) (h2 : Tb e base w' bs R.2.1 v' vals) (h3 : I R.2.2 O' w') (h4 : ∀ k, O' k → O k ∨ w.heap.size ≤ k) (h5 : ∀ k, v'.ownBlock = some k → ¬ O' k ∧ (v.ownBlock = some k ∨ w.heap.size ≤ k)) (h6 : TchP (fun k => O k ∨ k = bs ∨ v.ownBlock = some k) w w') : SrR e base ok bs t ar due fx I w v O vals R w' :=
 ⟨v', O', h1, h2, h3, h4, h5, h6⟩
end Go.Proofs.YtnhdohednekhjaaGreatDoor
namespace Go.Proofs.YtnhdohednekhjaaGreatDoor
open Go.RowKit Go.Sort
/-- the lengths of the tables of operations -/
def tabN (N : Nat) : Prop := N = 1 ∨ N = 2 ∨ N = 3 ∨ N = 4 ∨ N = 8 ∨ N = 9 ∨ N = 16 ∨ N = 27 ∨ N = 64
theorem tabN_bd {N : Nat} (h : tabN N) : 1 ≤ N ∧ N ≤ 64 := by unfold tabN at h; omega
set_option maxHeartbeats 1600000 in
theorem Mul64_one (N : Nat) (h : tabN N) (w : World) : Calls Tryz.prog 256 #[.int .u64 1, .int .u64 (N : Int)] w fun e w' => e = .returned (.tuple #[.int .u64 0, .int .u64 (N : Int)]) ∧ w = w' := by
 rcases h with rfl | rfl | rfl | rfl | rfl | rfl | rfl | rfl | rfl
 all_goals
  go_enter Tryz.func256, Tryz.ntmps256
  go_wp2
  go_ret2
  exact ⟨rfl, rfl⟩
set_option maxHeartbeats 1600000 in
theorem Mul_one (N : Nat) (h : tabN N) (w : World) : Calls Tryz.prog 233 #[.int .u64 1, .int .u64 (N : Int)] w fun e w' => e = .returned (.tuple #[.int .u64 0, .int .u64 (N : Int)]) ∧ w = w' := by
 go_enter Tryz.func233, Tryz.ntmps233
 go_wp2_with (go_at_call 256; refine (Mul64_one N h _).mono ?_; rintro e _ ⟨rfl, rfl⟩)
 go_ret2
 exact ⟨rfl, rfl⟩
theorem IR.heapAt {e base : Nat} {w : World} {g n : Nat} {L : List Int} (h : IR e base w g n n L) : w.heap[g]? = some (.cells (L.map (Value.int .i64)).toArray e (0, 0)) := by
 obtain ⟨h1, h2, h3, h4, h5⟩ := h
 rcases h5 with ⟨h6, _⟩ | ⟨g', cap, cur, hv, hg, hh, hn, hc, hcs, hL⟩
 ·simp at h6
 ·simp only [Value.slice.injEq, Option.some.injEq, Addr.mk.injEq, and_true, true_and] at hv
  obtain ⟨rfl, rfl⟩ := hv
  rw [hh]
  have : cur = (L.map (Value.int .i64)).toArray := by
   rw [← hL, List.take_of_length_le (by simp [hcs])]
  rw [this]
end Go.Proofs.YtnhdohednekhjaaGreatDoor
namespace Go.Proofs.YtnhdohednekhjaaGreatDoor
open Go.RowKit Go.Sort
abbrev ZP := (Int × List Int) × (Int × Value)
def zF (Z : List ZP) (v : Nat) : List ZP := Z.filter fun z => topI z.1.2 == (v : Int)
/-- blocks of what is finished -/
def okN (base N : Nat) (us : Nat → Value) (vin : Value) (k : Nat) : Prop := base ≤ k ∧ (∀ v, v < N → (us v).ownBlock ≠ some k) ∧ vin.ownBlock ≠ some k
structure FinS (B : Ty (List Bool)) (eL eR eB base N : Nat) (w : World) (g : Nat) (us : Nat → Value) (vin : Value) (Z : List ZP) (vs : List Value) (ins : List (List Bool)) : Prop where
 du : DU eL eR base w.heap.size w g N us (fun v => (zF Z v).map (·.2))
 zs : ∀ z ∈ Z, pvR (okN base N us vin) w z
 vi : Bl Ty.val eB base w.heap.size w vin vs
 bl : vs.length = ins.length
 br : ∀ i (h : i < vs.length) (h' : i < ins.length), B.RdP (okN base N us vin) w [vs[i]] ins[i]
 vu : ∀ v, v < N → ∀ k, (us v).ownBlock = some k → vin.ownBlock ≠ some k
section
variable {B : Ty (List Bool)} {eL eR eB base N g : Nat} {w w' : World} {us : Nat → Value} {vin : Value} {Z : List ZP} {vs : List Value} {ins : List (List Bool)}
theorem FinS.lt (h : FinS B eL eR eB base N w g us vin Z vs ins) : g < w.heap.size := h.du.lt
theorem FinS.below (h : FinS B eL eR eB base N w g us vin Z vs ins) (hB : base ≤ w.heap.size) (hb : Below w.heap.size w w') : FinS B eL eR eB base N w' g us vin Z vs ins :=
 ⟨(h.du.below hb (Nat.le_refl _) hB).mono hb.size, fun z hz => (h.zs z hz).below hb, (h.vi.below hb (Nat.le_refl _)).mono hb.size, h.bl, fun i h1 h2 => (h.br i h1 h2).below hb, h.vu⟩
/-- a cell of an older block -/
theorem FinS.set {b i : Nat} {u : Value} (h : FinS B eL eR eB base N w g us vin Z vs ins) (hb : b < base) (hg : b ≠ g) : FinS B eL eR eB base N (w.setCell ⟨b, i, none⟩ u) g us vin Z vs ins := by
 have ht : TchP (fun k => k = b) w (w.setCell ⟨b, i, none⟩ u) := TchP.set rfl
 have hk : ∀ k, k < w.heap.size → okN base N us vin k → ¬ (k = b) := fun k _ hk e => by have := hk.1; omega
 have hz : (w.setCell ⟨b, i, none⟩ u).heap.size = w.heap.size := by simp [World.setCell]
 have hh : ∀ k, k ≠ b → (w.setCell ⟨b, i, none⟩ u).heap[k]? = w.heap[k]? := fun k hk => Below.heap_setCell _ _ _ _ hk
 refine ⟨?_, fun z hz => (h.zs z hz).tchP ht hk, bl_val_same h.vi (fun q hq => hh q (by have := h.vi.ge hq; omega)) (by rw [hz]; exact Nat.le_refl _), h.bl, fun j h1 h2 => (h.br j h1 h2).tchP ht hk, h.vu⟩
 obtain ⟨d1, d2, d3, d4⟩ := h.du
 refine ⟨owns_same d1 (hh g (Ne.symm hg)), d2, fun v hv => ?_, d4⟩
 exact pv_same (d3 v hv) (fun q hq => hh q (by have := (d3 v hv).ge hq; omega)) (by rw [hz]; exact Nat.le_refl _)
theorem FinS.sets (h : FinS B eL eR eB base N w g us vin Z vs ins) (hB : B.sz = 1) (hn : vs.length ≤ 1000) : (Ty.slice B).RdP (fun k => k = g ∨ base ≤ k) w [vin] ins :=
 rows_ofP hB (bl_val_rdP h.vi (by unfold capMax; omega) (fun q hq => .inr (h.vi.ge hq))) h.bl (fun i h1 h2 => (h.br i h1 h2).mono (fun k _ hk => .inr hk.1))
end
end Go.Proofs.YtnhdohednekhjaaGreatDoor
namespace Go.Proofs.YtnhdohednekhjaaGreatDoor
open Go.RowKit
section
variable {P : Program} {ops : Array Oper} {Q : Exit → Act → World → Prop} {md : Region.Mode} {S : World → Prop} {tail : List Nat}
end
end Go.Proofs.YtnhdohednekhjaaGreatDoor
namespace Go.Proofs.YtnhdohednekhjaaGreatDoor
open Go.RowKit Go.Sort
end Go.Proofs.YtnhdohednekhjaaGreatDoor
namespace Go.Proofs.YtnhdohednekhjaaGreatDoor
open Go.RowKit Go.Sort
/-- what the reference's search only reads: at block br -/
def Ru (ok : Nat → Prop) (w : World) (br : Nat) (t : Tpl) (ar : Int) (due : List (List (Int × List Int))) (fx : List Int) : Prop :=
 br < w.heap.size ∧ ∃ tb tw v2 v3 v4, w.cell? ⟨br, 0, none⟩ = some (.pointer (some ⟨tb, tw, none⟩)) ∧ tb < w.heap.size ∧ ok tb ∧ w.cell? ⟨tb, tw, none⟩ = some (.int .i64 t.1) ∧ w.cell? ⟨br, 1, none⟩ = some (.int .i64 ar) ∧ w.cell? ⟨br, 2, none⟩ = some v2 ∧ w.cell? ⟨br, 3, none⟩ = some v3 ∧ w.cell? ⟨br, 4, none⟩ = some v4 ∧
  (Ty.slice Ty.setp).RdP ok w [v2] (insF t) ∧ duesT.RdP ok w [v3] due ∧ intsT.RdP ok w [v4] fx
section
variable {ok ok' : Nat → Prop} {w w' : World} {br : Nat} {t : Tpl} {ar : Int} {due : List (List (Int × List Int))} {fx : List Int}
theorem Ru.below (h : Ru ok w br t ar due fx) (hb : Below w.heap.size w w') : Ru ok w' br t ar due fx := by
 obtain ⟨h1, tb, tw, v2, v3, v4, c0, ht, hk, ct, c1, c2, c3, c4, h3, h4, h5⟩ := h
 exact ⟨Nat.lt_of_lt_of_le h1 hb.size, tb, tw, v2, v3, v4, (hb.cell (p := ⟨br, 0, none⟩) h1).trans c0, Nat.lt_of_lt_of_le ht hb.size, hk, (hb.cell (p := ⟨tb, tw, none⟩) ht).trans ct, (hb.cell (p := ⟨br, 1, none⟩) h1).trans c1, (hb.cell (p := ⟨br, 2, none⟩) h1).trans c2, (hb.cell (p := ⟨br, 3, none⟩) h1).trans c3, (hb.cell (p := ⟨br, 4, none⟩) h1).trans c4, h3.below hb, h4.below hb, h5.below hb⟩
theorem Ru.tchP {O : Nat → Prop} (h : Ru ok w br t ar due fx) (ht : TchP O w w') (hO : ∀ k, k < w.heap.size → ok k → ¬ O k) (hb : ¬ O br) : Ru ok w' br t ar due fx := by
 obtain ⟨h1, tb, tw, v2, v3, v4, c0, htb, hk, ct, c1, c2, c3, c4, h3, h4, h5⟩ := h
 exact ⟨Nat.lt_of_lt_of_le h1 ht.size, tb, tw, v2, v3, v4, (ht.cell h1 hb).trans c0, Nat.lt_of_lt_of_le htb ht.size, hk, (ht.cell htb (hO tb htb hk)).trans ct, (ht.cell h1 hb).trans c1, (ht.cell h1 hb).trans c2, (ht.cell h1 hb).trans c3, (ht.cell h1 hb).trans c4, h3.tchP ht hO, h4.tchP ht hO, h5.tchP ht hO⟩
theorem Ru.set {i : Nat} {u : Value} (h : Ru ok w br t ar due fx) (hi : 5 ≤ i) (hO : ¬ ok br) : Ru ok (w.setCell ⟨br, i, none⟩ u) br t ar due fx := by
 obtain ⟨h1, tb, tw, v2, v3, v4, c0, htb, hk, ct, c1, c2, c3, c4, h3, h4, h5⟩ := h
 have hs : TchP (fun k => k = br) w (w.setCell ⟨br, i, none⟩ u) := TchP.set rfl
 have hkk : ∀ k, k < w.heap.size → ok k → ¬ (k = br) := fun k _ hk e => hO (e ▸ hk)
 have hc : ∀ j, j < 5 → (w.setCell ⟨br, i, none⟩ u).cell? ⟨br, j, none⟩ = w.cell? ⟨br, j, none⟩ := fun j hj => World.cell?_setCell_other _ _ _ _ (by first | (simp; done) | (simp; omega))
 exact ⟨by simpa [World.setCell] using h1, tb, tw, v2, v3, v4, (hc 0 (by omega)).trans c0, by simpa [World.setCell] using htb, hk, (hs.cell htb (hkk tb htb hk)).trans ct, (hc 1 (by omega)).trans c1, (hc 2 (by omega)).trans c2, (hc 3 (by omega)).trans c3, (hc 4 (by omega)).trans c4, h3.tchP hs hkk, h4.tchP hs hkk, h5.tchP hs hkk⟩
end
end Go.Proofs.YtnhdohednekhjaaGreatDoor
namespace Go.Proofs.YtnhdohednekhjaaGreatDoor
open Go.RowKit Go.Sort
section
variable {N : Nat} {pre : List Int} {cur v : Int}
end
/-- what the search turns: the table, the steps, whether it has begun -/
def Mc (e base : Nat) (w : World) (br gt N : Nat) (T : List Int) (st : Nat) (bg : Bool) : Prop :=
 br < w.heap.size ∧ w.cell? ⟨br, 5, none⟩ = some (.slice (some ⟨gt, 0, none⟩) N N) ∧ IR e base w gt N N T ∧ w.cell? ⟨br, 6, none⟩ = some (.int .i64 (st : Int)) ∧ w.cell? ⟨br, 7, none⟩ = some (.bool bg) ∧ w.frozen? ⟨br, 6, none⟩ = false ∧ w.frozen? ⟨br, 7, none⟩ = false
section
variable {e base br gt N st : Nat} {w w' : World} {T : List Int} {bg : Bool}
theorem IR.same {g n cap : Nat} {L : List Int} (h : IR e base w g n cap L) (hs : w'.heap[g]? = w.heap[g]?) : IR e base w' g n cap L := ⟨h.1, h.2.1, h.2.2.1, owns_same h.2.2.2 hs⟩
theorem Mc.same (h : Mc e base w br gt N T st bg) (h1 : w'.heap[br]? = w.heap[br]?) (h2 : w'.heap[gt]? = w.heap[gt]?) (hz : w.heap.size ≤ w'.heap.size) : Mc e base w' br gt N T st bg := by
 obtain ⟨h0, c5, hi, c6, c7, f6, f7⟩ := h
 exact ⟨Nat.lt_of_lt_of_le h0 hz, (World.cell?_of_block (a := ⟨br, 5, none⟩) h1).trans c5, hi.same h2, (World.cell?_of_block (a := ⟨br, 6, none⟩) h1).trans c6, (World.cell?_of_block (a := ⟨br, 7, none⟩) h1).trans c7, (World.frozen?_of_block (a := ⟨br, 6, none⟩) h1).trans f6, (World.frozen?_of_block (a := ⟨br, 7, none⟩) h1).trans f7⟩
theorem Mc.below (h : Mc e base w br gt N T st bg) (hb : Below w.heap.size w w') : Mc e base w' br gt N T st bg := h.same (hb.block br h.1) (hb.block gt h.2.2.1.lt) hb.size
end
/-- the box of the reference's search -/
def BxR (w : World) (br : Nat) (vt : Value) (ar : Int) (gd gf gt N : Nat) (vin : Value) : Prop :=
 br < w.heap.size ∧ w.cell? ⟨br, 0, none⟩ = some vt ∧ w.cell? ⟨br, 1, none⟩ = some (.int .i64 ar) ∧ w.cell? ⟨br, 2, none⟩ = some vin ∧ w.cell? ⟨br, 3, none⟩ = some (.slice (some ⟨gd, 0, none⟩) N N) ∧ w.cell? ⟨br, 4, none⟩ = some (.slice (some ⟨gf, 0, none⟩) N N) ∧ w.cell? ⟨br, 5, none⟩ = some (.slice (some ⟨gt, 0, none⟩) N N) ∧
  w.cell? ⟨br, 6, none⟩ = some (.int .i64 0) ∧ w.cell? ⟨br, 7, none⟩ = some (.bool false) ∧ w.frozen? ⟨br, 2, none⟩ = false ∧ w.frozen? ⟨br, 4, none⟩ = false ∧ w.frozen? ⟨br, 6, none⟩ = false ∧ w.frozen? ⟨br, 7, none⟩ = false
theorem BxR.same {w w' : World} {br : Nat} {vt : Value} {ar : Int} {gd gf gt N : Nat} {vin : Value} (h : BxR w br vt ar gd gf gt N vin) (hs : w'.heap[br]? = w.heap[br]?) (hz : w.heap.size ≤ w'.heap.size) : BxR w' br vt ar gd gf gt N vin := by
 obtain ⟨h0, c0, c1, c2, c3, c4, c5, c6, c7, f2, f4, f6, f7⟩ := h
 have c : ∀ i, w'.cell? ⟨br, i, none⟩ = w.cell? ⟨br, i, none⟩ := fun i => World.cell?_of_block (a := ⟨br, i, none⟩) hs
 have f : ∀ i, w'.frozen? ⟨br, i, none⟩ = w.frozen? ⟨br, i, none⟩ := fun i => World.frozen?_of_block (a := ⟨br, i, none⟩) hs
 exact ⟨Nat.lt_of_lt_of_le h0 hz, (c 0).trans c0, (c 1).trans c1, (c 2).trans c2, (c 3).trans c3, (c 4).trans c4, (c 5).trans c5, (c 6).trans c6, (c 7).trans c7, (f 2).trans f2, (f 4).trans f4, (f 6).trans f6, (f 7).trans f7⟩
theorem BxR.set {w : World} {br : Nat} {vt : Value} {ar : Int} {gd gf gt N : Nat} {vin v' : Value} (h : BxR w br vt ar gd gf gt N vin) : BxR (w.setCell ⟨br, 2, none⟩ v') br vt ar gd gf gt N v' := by
 obtain ⟨h0, c0, c1, c2, c3, c4, c5, c6, c7, f2, f4, f6, f7⟩ := h
 have c : ∀ i, i ≠ 2 → (w.setCell ⟨br, 2, none⟩ v').cell? ⟨br, i, none⟩ = w.cell? ⟨br, i, none⟩ := fun _ hi => World.cell?_setCell_other _ _ _ _ (fun e => hi (congrArg Addr.off e.symm))
 have f : ∀ i, (w.setCell ⟨br, 2, none⟩ v').frozen? ⟨br, i, none⟩ = w.frozen? ⟨br, i, none⟩ := fun i => World.frozen?_setCell _ _ _ _
 exact ⟨by simpa [World.setCell] using h0, (c 0 (by decide)).trans c0, (c 1 (by decide)).trans c1, World.cell?_setCell_same _ _ _ c2, (c 3 (by decide)).trans c3, (c 4 (by decide)).trans c4, (c 5 (by decide)).trans c5, (c 6 (by decide)).trans c6, (c 7 (by decide)).trans c7, (f 2).trans f2, (f 4).trans f4, (f 6).trans f6, (f 7).trans f7⟩
end Go.Proofs.YtnhdohednekhjaaGreatDoor
namespace Go.Proofs.YtnhdohednekhjaaGreatDoor
open Go.RowKit Go.Sort
section
variable {t : Tpl} {ar : Int}
end
theorem IR.fp {e base : Nat} {w : World} {g n cap : Nat} {L : List Int} (_h : IR e base w g n cap L) {fp : List Nat} (h2 : intsT.rd w [.slice (some ⟨g, 0, none⟩) n cap] L fp) : ∀ k ∈ fp, k = g := fun k hk => by
 obtain ⟨ad, cap', hv, -, -, h3⟩ := h2
 rcases h3 with ⟨_, rfl⟩ | ⟨_, b, o, fps, rfl, _, rfl, h4⟩
 ·cases hk
 ·simp only [List.cons.injEq, Value.slice.injEq, Option.some.injEq, Addr.mk.injEq, and_true] at hv
  obtain ⟨⟨rfl, rfl⟩, -, -⟩ := hv
  rcases List.mem_cons.1 hk with rfl | hk
  ·rfl
  ·obtain ⟨i, hi, hk⟩ := List.mem_flatMap.1 hk
   obtain ⟨cs, ⟨_, _, hf⟩, _⟩ := h4 i (by simpa using hi)
   rw [hf] at hk
   cases hk
section
variable {t : Tpl} {ar : Int}
end
/-- what the listener keeps: a slice at block bx, of operations in blocks of its own -/
def outF (ar : Int) (bx base : Nat) (told : List (List Int)) (O : Nat → Prop) (w : World) : Prop :=
 (∀ k, O k → k < w.heap.size ∧ base ≤ k) ∧ O bx ∧ w.frozen? ⟨bx, 0, none⟩ = false ∧ ∃ v, w.cell? ⟨bx, 0, none⟩ = some v ∧ (∀ g, v.ownBlock = some g → O g ∧ g ≠ bx) ∧ Bl (opT.on fun k => O k ∧ k ≠ bx) 63 base w.heap.size w v ((told.take 64).map fun x => (ar, x))
theorem outF.stable {ar : Int} {bx base : Nat} {told : List (List Int)} {O : Nat → Prop} {w w' : World} (h : outF ar bx base told O w) (hs : ∀ k, k < w.heap.size → O k → w'.heap[k]? = w.heap[k]?) (hz : w.heap.size ≤ w'.heap.size) : outF ar bx base told O w' := by
 obtain ⟨h1, h2, h3, v, h4, h5, h6⟩ := h
 have hb := hs bx (h1 bx h2).1 h2
 exact ⟨fun k hk => ⟨Nat.lt_of_lt_of_le (h1 k hk).1 hz, (h1 k hk).2⟩, h2, (World.frozen?_of_block (a := ⟨bx, 0, none⟩) hb).trans h3, v, (World.cell?_of_block (a := ⟨bx, 0, none⟩) hb).trans h4, h5, (on_same h6 h5 (fun k hk ho => hs k hk ho.1)).mono hz⟩
theorem rdP_lt {α : Type} {E : Ty α} {ok : Nat → Prop} {w : World} {cs : List Value} {x : α} (h : E.RdP ok w cs x) : E.RdP (fun k => ok k ∧ k < w.heap.size) w cs x := let ⟨fp, h1, h2⟩ := h; ⟨fp, h1, fun k hk => ⟨h2 k hk, E.lt h1 k hk⟩⟩
theorem Ru.lt {ok : Nat → Prop} {w : World} {br : Nat} {t : Tpl} {ar : Int} {due : List (List (Int × List Int))} {fx : List Int} (h : Ru ok w br t ar due fx) : Ru (fun k => ok k ∧ k < w.heap.size) w br t ar due fx := by
 obtain ⟨h1, tb, tq, v2, v3, v4, c0, ht, hk, ct, c1, c2, c3, c4, h3, h4, h5⟩ := h
 exact ⟨h1, tb, tq, v2, v3, v4, c0, ht, ⟨hk, ht⟩, ct, c1, c2, c3, c4, rdP_lt h3, rdP_lt h4, rdP_lt h5⟩
end Go.Proofs.YtnhdohednekhjaaGreatDoor
namespace Go.Proofs.YtnhdohednekhjaaGreatDoor
open Go.RowKit Go.Sort
/-- what broken hands back: nil in the second place just if the relation is kept -/
def BrkR (b : Bool) (e : Ending) : Prop := ∃ a o m, e = .returned (.tuple #[a, .slice o m m]) ∧ (b = true → o = none ∧ m = 0) ∧ (b = false → ∃ g : Nat, o = some ⟨g, 0, none⟩)
theorem BrkR.yes {b : Bool} {a : Value} (h : b = true) : BrkR b (.returned (.tuple #[a, .slice none 0 0])) := ⟨a, none, 0, rfl, fun _ => ⟨rfl, rfl⟩, (fun h' => by rw [h] at h'; cases h')⟩
theorem BrkR.no {b : Bool} {a : Value} {g m : Nat} (h : b = false) : BrkR b (.returned (.tuple #[a, .slice (some ⟨g, 0, none⟩) m m])) := ⟨a, _, m, rfl, (fun h' => by rw [h] at h'; cases h'), fun _ => ⟨g, rfl⟩⟩
end Go.Proofs.YtnhdohednekhjaaGreatDoor
namespace Go.Proofs.YtnhdohednekhjaaGreatDoor
open Go.RowKit Go.Sort
end Go.Proofs.YtnhdohednekhjaaGreatDoor
namespace Go.Proofs.YtnhdohednekhjaaGreatDoor
open Go.RowKit Go.Sort
/-- the tuples for which it is so, of the first k ones -/
def relL (s : Int) (ar : Nat) (p : List Int → Bool) (k : Nat) : List (List Int) := ((List.range k).map fun i : Nat => digL s i ar).filter p
theorem relL_zero {s : Int} {ar : Nat} {p : List Int → Bool} : relL s ar p 0 = [] := by simp [relL]
theorem relL_yes {s : Int} {ar : Nat} {p : List Int → Bool} {k : Nat} (h : p (digL s k ar) = true) : relL s ar p k ++ [digL s k ar] = relL s ar p (k + 1) := by simp [relL, List.range_succ, h]
theorem relL_no {s : Int} {ar : Nat} {p : List Int → Bool} {k : Nat} (h : p (digL s k ar) = false) : relL s ar p k = relL s ar p (k + 1) := by simp [relL, List.range_succ, h]
theorem relL_len {s : Int} {ar : Nat} {p : List Int → Bool} {k : Nat} : (relL s ar p k).length ≤ k := by
 unfold relL
 exact Nat.le_trans (List.length_filter_le _ _) (by simp)
set_option maxHeartbeats 3200000 in
set_option maxRecDepth 100000 in
theorem relOf_any (w : World) (s : Int) (ar : Nat) (hs : 1 ≤ s ∧ s ≤ 4) (har : ar ≤ 4) (g : Nat) (caps : Array Value) (eg : ∀ args w, (callFunc g args).run Tryz.prog w = .ok (.enter g args) w) (p : List Int → Bool) (N : Nat) (hN : s ^ ar = N)
  (hto : Hid (∀ W u (k : Nat), Below w.heap.size w W → k < N → intsT.Rd W [u] (digL s k ar) → Calls Tryz.prog g (#[u] ++ caps) W fun e w' => e = .returned (.bool (p (digL s k ar))) ∧ Below W.heap.size W w')) :
  Calls Tryz.prog 95 #[.int .i64 s, .int .i64 ar, .func (.func g) #[] caps] w (RetA relT w ((ar : Int), relL s ar p N)) := by
 have hNle : N ≤ 1000000 := by
  have h1 : s ^ ar ≤ 1000000 := by
   refine Int.le_trans (pow_mono' (by omega) (show s ≤ 4 by omega) ar) ?_
   rcases (show ar = 0 ∨ ar = 1 ∨ ar = 2 ∨ ar = 3 ∨ ar = 4 by omega) with e | e | e | e | e <;> rw [e] <;> decide
  omega
 have HN : Hid (s ^ ((ar : Int)).toNat = N) := by unfold Hid; rw [Int.toNat_natCast]; exact hN
 clear hN
 go_enter Tryz.func95, Tryz.ntmps95
 go_wp2_with fail
 generalize hW : World.alloc _ _ = W
 have hbW : Below w.heap.size w W := hW ▸ bAA
 have hsW : W.heap.size = w.heap.size + 2 := by rw [← hW]; simp
 have r0 : W.cell? ⟨w.heap.size, 0, none⟩ = some (.int .i64 0) := by rw [← hW]; simp [go_sem]
 have r1 : W.cell? ⟨w.heap.size, 1, none⟩ = some (.slice none 0 0) := by rw [← hW]; simp [go_sem]
 have m0 : W.frozen? ⟨w.heap.size, 0, none⟩ = false := by rw [← hW]; simp [go_sem]
 have m1 : W.frozen? ⟨w.heap.size, 1, none⟩ = false := by rw [← hW]; simp [go_sem]
 have y0 : W.cell? ⟨w.heap.size + 1, 0, none⟩ = some (.int .i64 (ar : Int)) := by rw [← hW]; simp [go_sem]
 have y1 : W.cell? ⟨w.heap.size + 1, 1, none⟩ = some (.slice none 0 0) := by rw [← hW]; simp [go_sem]
 have n1 : W.frozen? ⟨w.heap.size + 1, 1, none⟩ = false := by rw [← hW]; simp [go_sem]
 clear hW
 refine (power_any _ s (ar : Int) (by omega) (by omega) (by omega)).mono ?_
 rintro e _ ⟨rfl, rfl⟩
 rw [HN.out]
 go_wp2_with fail
 go_loopw [15] (fun i wr => ∃ (k : Nat) (v : Value), k ≤ N ∧ i = .int .i64 k ∧ Bl intsT 48 (w.heap.size + 2) wr.heap.size wr v (relL s ar p k) ∧ wr.cell? ⟨w.heap.size + 1, 1, none⟩ = some v ∧ wr.cell? ⟨w.heap.size + 1, 0, none⟩ = some (.int .i64 (ar : Int)) ∧ wr.frozen? ⟨w.heap.size + 1, 1, none⟩ = false ∧ Below (w.heap.size + 1) W wr ∧ w.heap.size + 2 ≤ wr.heap.size) (fun i _ => N - (intOf i).toNat)
 case atStart => exact ⟨0, _, Nat.zero_le _, rfl, by rw [relL_zero]; simpa using Bl.nil, y1, y0, n1, Below.refl _ _, by omega⟩
 case round =>
  obtain ⟨k, v, hk, rfl, hBv, z1, z0, zn, hbe, hse⟩ := hrel
  have hlr := relL_len (s := s) (ar := ar) (p := p) (k := k)
  obtain ⟨av0, nv0, cv0, rfl⟩ := ex_slice (hBv.fr (by unfold capMax; omega))
  have HBv := Lib.hid hBv
  have hbw : Below w.heap.size w wr := hbW.trans (hbe.mono (by omega))
  clear hBv y0 y1 n1
  by_cases hkl : k < N
  ·go_wp2_with fail
   refine (listOf_any _ s (k : Int) ar (by omega) (by omega) (by omega) (by omega) (by omega)).mono ?_
   rintro e w2 ⟨u, rfl, hf, hb2⟩
   obtain ⟨a2, n2, c2, rfl⟩ := ex_slice hf
   have HF := Lib.hid hf
   have hz2 := hb2.size
   replace z0 := (cellB hb2 (by omega)).trans z0
   replace z1 := (cellB hb2 (by omega)).trans z1
   replace zn := (frozenB hb2 (by omega)).trans zn
   clear hf
   go_wp2_with fail
   refine (hto.out _ _ k (bthen hbw hb2) hkl HF.out.rd).mono ?_
   rintro e w3 ⟨rfl, hb3⟩
   have hz3 := hb3.size
   replace z0 := (cellB hb3 (by omega)).trans z0
   replace z1 := (cellB hb3 (by omega)).trans z1
   replace zn := (frozenB hb3 (by omega)).trans zn
   have hb23 : Below wr.heap.size wr w3 := bthen hb2 hb3
   cases hp : p (digL s k ar)
   ·have HNO := Lib.hid (relL_no hp)
    clear hp
    go_wp2_with fail
    go_roundw
    case rel => exact ⟨k + 1, _, by omega, by go_num, by rw [← HNO.out]; exact (HBv.out.below hb23 (Nat.le_refl _)).mono (by omega), z1, z0, zn, hbe.trans (hb23.mono (by omega)), by omega⟩
    case measure => simp [intOf]; omega
   ·have HYES := Lib.hid (relL_yes hp)
    have HF3 := Lib.hid (HF.out.below hb3)
    clear hp
    go_wp2_with (refine wpList_push (E := intsT) _ rfl _ _ 33 48 rfl elInt64SS rfl (HBv.out.below (hb23.alloc hb23.size _) (Nat.le_refl _)) rfl news1 (HF3.out.below bA) (by omega) (by decide) hse (by first | (simp; done) | (simp; omega)) ?_; intro v5 w5 hB5 hg5 _; obtain ⟨a5, n5, c5, rfl⟩ := ex_slice (hB5.fr (by rw [List.length_append]; unfold capMax; simp only [List.length_singleton]; omega)); have hb5 : Below (w.heap.size + 2) w3 w5 := ((Below.refl _ w3).alloc (by omega) _).grown hg5 (by first | (simp; done) | (simp; omega)) (fun q hq => HBv.out.own hq); have i1 := (cellB hb5 (by omega)).trans z1; have i0 := (cellB hb5 (by omega)).trans z0; have i2 := (frozenB hb5 (by omega)).trans zn)
    have hz5 := hb5.size
    rw [HYES.out] at hB5
    have HB5 := Lib.hid hB5
    clear hB5 hg5
    go_wp2_with fail
    go_roundw
    case rel => exact ⟨k + 1, _, by omega, by go_num, by rw [size_set]; exact HB5.out.sameB (fun q hq1 hq2 => Below.heap_setCell _ _ _ _ (by simp; omega)), World.cell?_setCell_same _ _ _ i1, (World.cell?_setCell_other _ _ _ _ (by simp)).trans i0, (World.frozen?_setCell _ _ _ _).trans i2, (hbe.trans ((hb23.mono (by omega)).trans (hb5.mono (by omega)))).setCell (by simp) _, by rw [size_set]; omega⟩
    case measure => simp [intOf]; omega
  ·obtain rfl : k = N := by omega
   have HFO := Lib.hid (HBv.out.fr (by unfold capMax; omega))
   replace r0 := (cellB hbe (by omega)).trans r0
   replace r1 := (cellB hbe (by omega)).trans r1
   replace m0 := (frozenB hbe (by omega)).trans m0
   replace m1 := (frozenB hbe (by omega)).trans m1
   obtain ⟨q0, q1⟩ := set2_cells (x := .int .i64 (ar : Int)) (y := .slice av0 nv0 cv0) r0 r1
   have hl1 : w.heap.size + 1 < wr.heap.size := by omega
   go_wp2_with fail
   refine bodyPost_ret (v := .agg #[.int .i64 (ar : Int), .slice av0 nv0 cv0]) (by simp [results, Tryz.results95, go_sem, q0, q1]) rfl ⟨[.int .i64 (ar : Int), .slice av0 nv0 cv0], rfl, ?_, ?_⟩
   ·exact (fr_cons (I64.small (by omega) (by omega)) (fr_set2 HFO.out (by omega))).mono (by omega)
   ·exact (hbw.setCell (by simp) _).setCell (by simp) _
end Go.Proofs.YtnhdohednekhjaaGreatDoor
namespace Go.Proofs.YtnhdohednekhjaaGreatDoor
open Go.RowKit Go.Sort
theorem dig_idx {s idx : Int} {n : Nat} (hs : 1 ≤ s) (h0 : 0 ≤ idx) (h : idx < s ^ n) : ∀ k, k ≤ n → idxL s 0 ((digL s idx n).take k) = idx / s ^ (n - k)
 | 0, _ => by
  rw [List.take_zero, Nat.sub_zero, Int.ediv_eq_zero_of_lt h0 h]
  rfl
 | k + 1, hk => by
  have hl : k < (digL s idx n).length := by rw [digL_len]; omega
  rw [idxL_take hl, dig_idx hs h0 h k (by omega)]
  have hg : (digL s idx n)[k] = dig s idx (n - 1 - k) := by simp [digL]
  rw [hg, show n - k = (n - (k + 1)) + 1 by omega, show n - 1 - k = n - (k + 1) by omega, ← quo_succ hs]
  unfold dig
  have h1 := Int.ediv_mul_add_emod (idx / s ^ (n - (k + 1))) s
  exact h1
theorem digL_in {s idx : Int} {n : Nat} (hs : 1 ≤ s) : ∀ a ∈ digL s idx n, 0 ≤ a ∧ a ≤ s - 1 := fun a ha => by
 obtain ⟨i, -, rfl⟩ := List.mem_map.1 ha
 have := dig_nn (idx := idx) hs (n - 1 - i)
 omega
theorem idx_mono {s : Int} (hs : 1 ≤ s) : ∀ {xs ys : List Int} {a b : Int}, xs.length = ys.length → (∀ x ∈ xs, 0 ≤ x ∧ x ≤ s - 1) → (∀ y ∈ ys, 0 ≤ y ∧ y ≤ s - 1) → a < b → idxL s a xs < idxL s b ys
 | [], [], _, _, _, _, _, h => h
 | [], _ :: _, _, _, hl, _, _, _ => by simp at hl
 | _ :: _, [], _, _, hl, _, _, _ => by simp at hl
 | x :: xs, y :: ys, a, b, hl, hx, hy, h => by
  simp only [idxL]
  refine idx_mono hs (by simpa using hl) (fun z hz => hx z (List.mem_cons_of_mem _ hz)) (fun z hz => hy z (List.mem_cons_of_mem _ hz)) ?_
  have h1 := hx x (List.mem_cons_self ..)
  have h2 := hy y (List.mem_cons_self ..)
  have h3 := Int.mul_le_mul_of_nonneg_right (show a + 1 ≤ b by omega) (show (0 : Int) ≤ s by omega)
  rw [Int.add_mul, Int.one_mul] at h3
  omega
theorem lt_of_idx {s : Int} (hs : 1 ≤ s) : ∀ {xs ys : List Int} {a : Int}, xs.length = ys.length → (∀ x ∈ xs, 0 ≤ x ∧ x ≤ s - 1) → (∀ y ∈ ys, 0 ≤ y ∧ y ≤ s - 1) → idxL s a xs < idxL s a ys → ltL xs ys
 | [], [], _, _, _, _, h => absurd h (Int.lt_irrefl _)
 | [], _ :: _, _, hl, _, _, _ => by simp at hl
 | _ :: _, [], _, hl, _, _, _ => by simp at hl
 | x :: xs, y :: ys, a, hl, hx, hy, h => by
  simp only [idxL] at h
  have hx' := fun z hz => hx z (List.mem_cons_of_mem x hz)
  have hy' := fun z hz => hy z (List.mem_cons_of_mem y hz)
  unfold ltL
  rcases Int.lt_trichotomy x y with hc | hc | hc
  ·rw [cmpL, if_neg (by omega), cmpI_lt hc]
   decide
  ·subst hc
   rw [cmpL, if_pos rfl]
   exact lt_of_idx hs (by simpa using hl) hx' hy' h
  ·have := idx_mono hs (a := a * s + y) (b := a * s + x) (show ys.length = xs.length by simpa using hl.symm) hy' hx' (by omega)
   omega
theorem dig_lt {s : Int} {n : Nat} {k j : Int} (hs : 1 ≤ s) (h0 : 0 ≤ k) (h : k < j) (hj : j < s ^ n) : ltL (digL s k n) (digL s j n) := by
 refine lt_of_idx hs (a := 0) (by rw [digL_len, digL_len]) (digL_in hs) (digL_in hs) ?_
 have h1 := dig_idx (n := n) hs h0 (by omega) n (Nat.le_refl _)
 have h2 := dig_idx (n := n) hs (show 0 ≤ j by omega) hj n (Nat.le_refl _)
 rw [Nat.sub_self, Int.pow_zero, Int.ediv_one, List.take_of_length_le (by rw [digL_len]; exact Nat.le_refl _)] at h1 h2
 rw [h1, h2]
 exact h
theorem relL_sorted {s : Int} {n N : Nat} {p : List Int → Bool} (hs : 1 ≤ s) (hN : s ^ n = N) : sortedL (relL s n p N) := by
 have h1 : ((List.range N).map fun i : Nat => digL s i n).Pairwise ltL := by
  rw [List.pairwise_map]
  refine List.Pairwise.imp_of_mem ?_ (List.pairwise_lt_range (n := N))
  intro a b _ hb hab
  have : b < N := by simpa using hb
  exact dig_lt hs (by omega) (by omega) (by omega)
 have h2 := h1.filter p
 intro i hi h0
 exact (List.pairwise_iff_getElem.1 h2) (i - 1) i (by unfold relL at hi; omega) hi (by omega)
/-- what is in such a relation -/
theorem relL_mem {s : Int} {n N : Nat} {p : List Int → Bool} {k : Nat} (hk : k < N) : tb (digL s k n ∈ relL s n p N) = p (digL s k n) := by
 cases h : p (digL s k n)
 ·refine tb_false fun hm => ?_
  have := (List.mem_filter.1 hm).2
  rw [h] at this
  cases this
 ·exact tb_true (List.mem_filter.2 ⟨List.mem_map.2 ⟨k, by simpa using hk, rfl⟩, h⟩)
end Go.Proofs.YtnhdohednekhjaaGreatDoor
namespace Go.Proofs.YtnhdohednekhjaaGreatDoor
open Go.RowKit Go.Sort
/-- the value of an operation -/
def opV (s : Int) (tab xs : List Int) : Int := tab.getD (idxL s 0 xs).toNat 0
/-- the table of a function of lists -/
def tabOf (s : Int) (ar N : Nat) (g : List Int → Int) : List Int := (List.range N).map fun i : Nat => g (digL s i ar)
theorem tabOf_len {s : Int} {ar N : Nat} {g : List Int → Int} : (tabOf s ar N g).length = N := by simp [tabOf]
theorem dig_of {s : Int} {ar : Nat} (hs : 1 ≤ s) {xs : List Int} (hl : xs.length = ar) (hx : ∀ a ∈ xs, 0 ≤ a ∧ a ≤ s - 1) : digL s (idxL s 0 xs) ar = xs := by
 have hb := idx_lt hs hl hx
 refine idxL_inj hs ar digL_len hl (digL_in hs) hx ?_
 have h1 := dig_idx (n := ar) hs hb.1 (by omega) ar (Nat.le_refl _)
 rw [Nat.sub_self, Int.pow_zero, Int.ediv_one, List.take_of_length_le (by rw [digL_len]; exact Nat.le_refl _)] at h1
 exact h1
theorem tabOf_at {s : Int} {ar N : Nat} {g : List Int → Int} (hs : 1 ≤ s) (hN : s ^ ar = N) {xs : List Int} (hl : xs.length = ar) (hx : ∀ a ∈ xs, 0 ≤ a ∧ a ≤ s - 1) : opV s (tabOf s ar N g) xs = g xs := by
 have hb := idx_lt hs hl hx
 rw [hN] at hb
 unfold opV tabOf
 rw [List.getD_eq_getElem?_getD, List.getElem?_map, List.getElem?_range (by omega)]
 show g (digL s ((idxL s 0 xs).toNat : Int) ar) = g xs
 rw [show (((idxL s 0 xs).toNat : Nat) : Int) = idxL s 0 xs by omega, dig_of hs hl hx]
/-- the projection to a place -/
def projT (s : Int) (ar N p : Nat) : List Int := tabOf s ar N fun xs => xs.getD p 0
/-- a composition -/
def compT (s : Int) (ar N : Nat) (f : List Int) (gs : List (Int × List Int)) : List Int := tabOf s ar N fun xs => opV s f (gs.map fun g => opV s g.2 xs)
end Go.Proofs.YtnhdohednekhjaaGreatDoor
namespace Go.Proofs.YtnhdohednekhjaaGreatDoor
open Go.RowKit Go.Sort
def Ty.byte : Ty Int where
 sz := 1
 rd := fun _ cs n fp => cs = [.int .u8 n] ∧ (0 ≤ n ∧ n ≤ 255) ∧ fp = []
 len := by rintro _ _ _ _ ⟨rfl, _, _⟩; rfl
 same := fun h _ => h
 lt := by rintro _ _ _ _ ⟨rfl, _, rfl⟩ k hk; cases hk
 one := by rintro _ _ _ _ ⟨rfl, _, _⟩ u hu; simp at hu; subst hu; rfl
abbrev bytesT := Ty.slice Ty.byte
theorem bytes_ex {w : World} {cs : List Value} {xs : List Int} (h : bytesT.Rd w cs xs) :
  ∃ ad cap, cs = [.slice ad xs.length cap] ∧ xs.length ≤ cap ∧ xs.length ≤ 140737488351232 ∧
   (0 < xs.length → ∃ b o, ad = some ⟨b, o, none⟩ ∧ b < w.heap.size ∧ ∀ i (h : i < xs.length), (0 ≤ xs[i] ∧ xs[i] ≤ 255) ∧ w.cell? ⟨b, o + i, none⟩ = some (.int .u8 xs[i])) := by
 obtain ⟨ad, cap, h1, h2, h3, h4⟩ := Ty.slice_ex h
 refine ⟨ad, cap, h1, h2, h3, fun hp => ?_⟩
 obtain ⟨b, o, h5, h6, h7⟩ := h4 hp
 refine ⟨b, o, h5, h6, fun i hi => ?_⟩
 obtain ⟨cs, ⟨fp, rfl, h8, h9⟩, h10⟩ := h7 i hi
 exact ⟨h8, by simpa [Ty.byte] using h10 0 (by simp)⟩
/-- a source of choices at block sb, whose bytes lie below block B, read at most K times -/
def SrcR (sb B : Nat) (K : Int) (w : World) : Prop :=
 ∃ (v : Value) (code : List Int) (pos sd : Int), w.cell? ⟨sb, 0, none⟩ = some v ∧ bytesT.RdP (fun q => q < B) w [v] code ∧ w.cell? ⟨sb, 1, none⟩ = some (.int .i64 pos) ∧ 0 ≤ pos ∧ pos ≤ K ∧
  w.cell? ⟨sb, 2, none⟩ = some (.int .u64 sd) ∧ 0 ≤ sd ∧ sd ≤ 18446744073709551615 ∧ w.frozen? ⟨sb, 1, none⟩ = false ∧ w.frozen? ⟨sb, 2, none⟩ = false ∧ B ≤ sb
theorem SrcR.lt {sb B : Nat} {K : Int} {w : World} (h : SrcR sb B K w) : sb < w.heap.size := let ⟨_, _, _, _, h, _⟩ := h; cell_lt h
theorem SrcR.mono {sb B : Nat} {K K' : Int} {w : World} (h : SrcR sb B K w) (hk : K ≤ K') : SrcR sb B K' w :=
 let ⟨v, c, p, s, h1, h2, h3, h4, h5, h6⟩ := h; ⟨v, c, p, s, h1, h2, h3, h4, Int.le_trans h5 hk, h6⟩
theorem SrcR.tch {sb B : Nat} {K : Int} {w w' : World} {O : Nat → Prop} (h : SrcR sb B K w) (ht : TchP O w w') (hs : ¬ O sb) (hO : ∀ q, q < B → ¬ O q) : SrcR sb B K w' := by
 have hl := h.lt
 obtain ⟨v, c, p, s, h1, h2, h3, h4, h5, h6, h7, h8, h9, h10, h11⟩ := h
 exact ⟨v, c, p, s, (ht.cell hl hs).trans h1, h2.tchP ht (fun q _ hq => hO q hq), (ht.cell hl hs).trans h3, h4, h5, (ht.cell hl hs).trans h6, h7, h8, (ht.frozen hl hs).trans h9, (ht.frozen hl hs).trans h10, h11⟩
theorem SrcR.below {sb B : Nat} {K : Int} {w w' : World} (h : SrcR sb B K w) (hb : Below w.heap.size w w') : SrcR sb B K w' := h.tch (TchP.of_below hb (fun _ => False)) (fun h => h) (fun _ _ h => h)
theorem wrapU (n : Int) : 0 ≤ IntKind.u64.wrap n ∧ IntKind.u64.wrap n ≤ 18446744073709551615 := by
 have h : IntKind.u64.wrap n = n % 18446744073709551616 := by simp [IntKind.wrap, IntKind.signed, IntKind.bits]
 rw [h]
 omega
theorem andB (n : Int) (h0 : 0 ≤ n) (h1 : n ≤ 18446744073709551615) : 0 ≤ wrap64 (bits BinOp.and IntKind.u64 n 255) ∧ wrap64 (bits BinOp.and IntKind.u64 n 255) ≤ 255 := by
 have h := u64_and n 255 h0 (by omega) (by omega) (by omega)
 have h2 : n.toNat &&& (255 : Int).toNat ≤ 255 := Nat.and_le_right
 rw [h]
 rw [wrap64_id (by omega) (by omega)]
 omega
/-- a number between two bounds comes back, the source has been read -/
def NxS (sb B : Nat) (K lo hi : Int) (w : World) (e : Ending) (w' : World) : Prop := ∃ x, e = .returned (.int .i64 x) ∧ lo ≤ x ∧ x ≤ hi ∧ SrcR sb B K w' ∧ TchP (fun q => q = sb) w w'
set_option maxHeartbeats 3200000 in
set_option maxRecDepth 100000 in
theorem next_any' (w : World) {sb B : Nat} {K : Int} (h : SrcR sb B K w) (hK0 : 0 ≤ K) (hK : K ≤ 1000000000) : Calls Tryz.prog 138 #[.pointer (some ⟨sb, 0, none⟩)] w (NxS sb B (K + 1) 0 255 w) := by
 have hl := h.lt
 obtain ⟨v, code, pos, sd, h1, h2, h3, h4, h5, h6, h7, h8, h9, h10, h11⟩ := h
 have H2 := Lib.hid h2
 obtain ⟨ad, cap, hv, hle, hle2, hc⟩ := bytes_ex h2.rd
 obtain rfl : v = _ := by simpa using hv
 clear h2 hv
 obtain ⟨p, rfl⟩ : ∃ p : Nat, pos = p := ⟨pos.toNat, by omega⟩
 go_enter Tryz.func138, Tryz.ntmps138
 go_wp2_with fail
 by_cases hp : p < code.length
 ·obtain ⟨b, o, rfl, hb, hce⟩ := hc (by omega)
  obtain ⟨hr, hcb⟩ := hce p hp
  generalize code[p] = x at *
  have hcv : IntKind.i64.wrap x = x := wrap_small (by omega) (by omega)
  clear hce
  go_quiet (fail)
  go_wp2_with fail
  go_quiet (fail)
  go_upto_region 6 with fail
  generalize hS : IntKind.u64.wrap (IntKind.u64.wrap (IntKind.u64.wrap (sd * 6364136223846793005) + x) + 1442695040888963407) = S
  have hS0 : 0 ≤ S ∧ S ≤ 18446744073709551615 := hS ▸ wrapU _
  generalize hW : World.setCell (World.setCell (World.drewN w _) _ _) _ _ = w3
  have c0 : w3.cell? ⟨sb, 0, none⟩ = some (.slice (some ⟨b, o, none⟩) code.length cap) := by rw [← hW]; exact (World.cell?_setCell_other _ _ _ _ (by simp)).trans ((World.cell?_setCell_other _ _ _ _ (by simp)).trans (((Quiet.drewN w _).below.cell hl).trans h1))
  have c1 : w3.cell? ⟨sb, 1, none⟩ = some (.int .i64 ((p : Int) + 1)) := by rw [← hW]; exact (World.cell?_setCell_other _ _ _ _ (by simp)).trans (World.cell?_setCell_same _ _ _ (((Quiet.drewN w _).below.cell hl).trans h3))
  have c2 : w3.cell? ⟨sb, 2, none⟩ = some (.int .u64 S) := by rw [← hW]; exact World.cell?_setCell_same _ _ _ ((World.cell?_setCell_other _ _ _ _ (by simp)).trans (((Quiet.drewN w _).below.cell hl).trans h6))
  have m1 : w3.frozen? ⟨sb, 1, none⟩ = false := by rw [← hW]; exact (World.frozen?_setCell _ _ _ _).trans ((World.frozen?_setCell _ _ _ _).trans (((Quiet.drewN w _).below.frozen hl).trans h9))
  have m2 : w3.frozen? ⟨sb, 2, none⟩ = false := by rw [← hW]; exact (World.frozen?_setCell _ _ _ _).trans ((World.frozen?_setCell _ _ _ _).trans (((Quiet.drewN w _).below.frozen hl).trans h10))
  have ht : TchP (fun q => q = sb) w w3 := hW ▸ (TchP.of_below (Quiet.drewN w _).below (fun q => q = sb)).then ((TchP.set (O := fun q => q = sb) rfl).then (TchP.set (O := fun q => q = sb) rfl) (fun q _ h => h)) (fun q _ h => h)
  have HT := Lib.hid ht
  have H3 := Lib.hid (H2.out.tchP ht (fun q _ h e => by omega))
  have hl3 : sb < w3.heap.size := cell_lt c0
  clear hW hS h1 h3 h6 h9 h10 H2 ht
  have HF : Hid (∀ n, SrcR sb B (K + 1) (w3.drewN n) ∧ TchP (fun q => q = sb) w (w3.drewN n)) := fun n => by
   have h : SrcR sb B (K + 1) w3 := ⟨_, code, _, _, c0, H3.out, c1, by omega, by omega, c2, hS0.1, hS0.2, m1, m2, h11⟩
   exact ⟨h.below (Quiet.drewN w3 n).below, HT.out.then (TchP.of_below (Quiet.drewN w3 n).below (fun q => q = sb)) (fun q _ h => h)⟩
  go_wp2_with fail
  go_quiet (fail)
  go_wp2_with fail
  go_ret
  exact ⟨x, rfl, hr.1, hr.2, (HF.out _).1, (HF.out _).2⟩
 ·clear hc
  go_quiet (fail)
  go_upto_region 6 with fail
  generalize hS : IntKind.u64.wrap (IntKind.u64.wrap (IntKind.u64.wrap (sd * 6364136223846793005)) + 1442695040888963407) = S
  have hS0 : 0 ≤ S ∧ S ≤ 18446744073709551615 := hS ▸ wrapU _
  generalize hW : World.setCell (World.setCell (World.drewN w _) _ _) _ _ = w3
  have c0 : w3.cell? ⟨sb, 0, none⟩ = some (.slice ad code.length cap) := by rw [← hW]; exact (World.cell?_setCell_other _ _ _ _ (by simp)).trans ((World.cell?_setCell_other _ _ _ _ (by simp)).trans (((Quiet.drewN w _).below.cell hl).trans h1))
  have c1 : w3.cell? ⟨sb, 1, none⟩ = some (.int .i64 ((p : Int) + 1)) := by rw [← hW]; exact (World.cell?_setCell_other _ _ _ _ (by simp)).trans (World.cell?_setCell_same _ _ _ (((Quiet.drewN w _).below.cell hl).trans h3))
  have c2 : w3.cell? ⟨sb, 2, none⟩ = some (.int .u64 S) := by rw [← hW]; exact World.cell?_setCell_same _ _ _ ((World.cell?_setCell_other _ _ _ _ (by simp)).trans (((Quiet.drewN w _).below.cell hl).trans h6))
  have m1 : w3.frozen? ⟨sb, 1, none⟩ = false := by rw [← hW]; exact (World.frozen?_setCell _ _ _ _).trans ((World.frozen?_setCell _ _ _ _).trans (((Quiet.drewN w _).below.frozen hl).trans h9))
  have m2 : w3.frozen? ⟨sb, 2, none⟩ = false := by rw [← hW]; exact (World.frozen?_setCell _ _ _ _).trans ((World.frozen?_setCell _ _ _ _).trans (((Quiet.drewN w _).below.frozen hl).trans h10))
  have ht : TchP (fun q => q = sb) w w3 := hW ▸ (TchP.of_below (Quiet.drewN w _).below (fun q => q = sb)).then ((TchP.set (O := fun q => q = sb) rfl).then (TchP.set (O := fun q => q = sb) rfl) (fun q _ h => h)) (fun q _ h => h)
  have HT := Lib.hid ht
  have H3 := Lib.hid (H2.out.tchP ht (fun q _ h e => by omega))
  have hl3 : sb < w3.heap.size := cell_lt c0
  clear hW hS h1 h3 h6 h9 h10 H2 ht
  have HF : Hid (∀ n, SrcR sb B (K + 1) (w3.drewN n) ∧ TchP (fun q => q = sb) w (w3.drewN n)) := fun n => by
   have h : SrcR sb B (K + 1) w3 := ⟨_, code, _, _, c0, H3.out, c1, by omega, by omega, c2, hS0.1, hS0.2, m1, m2, h11⟩
   exact ⟨h.below (Quiet.drewN w3 n).below, HT.out.then (TchP.of_below (Quiet.drewN w3 n).below (fun q => q = sb)) (fun q _ h => h)⟩
  go_wp2_with fail
  go_quiet (fail)
  go_wp2_with fail
  have hb := andB (S / 1099511627776) (by omega) (by omega)
  go_ret
  exact ⟨_, rfl, hb.1, hb.2, (HF.out _).1, (HF.out _).2⟩
set_option maxHeartbeats 1600000 in
set_option maxRecDepth 100000 in
theorem pick_any (w : World) {sb B : Nat} {K n : Int} (h : SrcR sb B K w) (hK0 : 0 ≤ K) (hK : K ≤ 1000000000) (hn : 1 ≤ n ∧ n ≤ 200) : Calls Tryz.prog 54 #[.pointer (some ⟨sb, 0, none⟩), .int .i64 n] w (NxS sb B (K + 1) 0 (n - 1) w) := by
 have H := Lib.hid h
 clear h
 rcases ilt 1 n with h1 | h1
 ·have h2 : ¬ n ≤ 1 := by omega
  have h3 : ¬ 200 < n := by omega
  go_enter Tryz.func54, Tryz.ntmps54
  go_wp2_with fail
  refine (next_any' w H.out hK0 hK).mono ?_
  rintro e w1 ⟨x, rfl, hx0, hx1, hs, ht⟩
  have HS := Lib.hid hs
  have HT := Lib.hid ht
  clear hs ht
  go_wp2_with fail
  go_ret
  refine ⟨_, rfl, ?_, ?_, HS.out, HT.out⟩
  ·first | exact Int.emod_nonneg _ (by omega) | exact Int.tmod_nonneg _ (by omega)
  ·have := Int.emod_lt_of_pos x (show 0 < n by omega)
   have h5 : Int.tmod x n = x % n := Int.tmod_eq_emod_of_nonneg (by omega)
   first | omega | (rw [h5]; omega)
 ·obtain rfl : n = 1 := by omega
  go_enter Tryz.func54, Tryz.ntmps54
  go_wp2_with fail
  go_ret
  exact ⟨0, rfl, by omega, by omega, H.out.mono (by omega), TchP.refl _ _⟩
/-- yes or no comes back, the source has been read -/
def OnS (sb B : Nat) (K : Int) (w : World) (e : Ending) (w' : World) : Prop := ∃ b, e = .returned (.bool b) ∧ SrcR sb B K w' ∧ TchP (fun q => q = sb) w w'
theorem one_any (w : World) {sb B : Nat} {K n : Int} (h : SrcR sb B K w) (hK0 : 0 ≤ K) (hK : K ≤ 1000000000) (hn : 1 ≤ n ∧ n ≤ 200) : Calls Tryz.prog 188 #[.pointer (some ⟨sb, 0, none⟩), .int .i64 n] w (OnS sb B (K + 1) w) := by
 have H := Lib.hid h
 clear h
 go_enter Tryz.func188, Tryz.ntmps188
 go_wp2_with fail
 refine (pick_any w H.out hK0 hK hn).mono ?_
 rintro e w1 ⟨x, rfl, hx0, hx1, hs, ht⟩
 have HS := Lib.hid hs
 have HT := Lib.hid ht
 clear hs ht
 go_wp2_with fail
 go_ret
 exact ⟨_, rfl, HS.out, HT.out⟩
theorem l00From_any (w : World) {v : Value} {code : List Int} (h : bytesT.Rd w [v] code) : Calls Tryz.prog 53 #[v] w fun e w' => e = .returned (.pointer (some ⟨w.heap.size, 0, none⟩)) ∧ SrcR w.heap.size w.heap.size 0 w' ∧ Below w.heap.size w w' := by
 have H : Hid (bytesT.RdP (fun q => q < w.heap.size) w [v] code) := let ⟨fp, h1⟩ := h; ⟨fp, h1, fun k hk => bytesT.lt h1 k hk⟩
 obtain ⟨ad, cap, rfl⟩ := rd_slice h
 clear h
 go_enter Tryz.func53, Tryz.ntmps53
 go_wp2_with fail
 go_ret
 have hb : Below w.heap.size w (w.alloc (.cells #[.slice ad code.length cap, .int .i64 0, .int .u64 0] 157)) := bA
 refine ⟨rfl, ⟨_, code, 0, 0, by simp [go_sem], H.out.below hb, by simp [go_sem], by omega, by omega, by simp [go_sem], by omega, by omega, by simp [go_sem], by simp [go_sem], Nat.le_refl _⟩, hb⟩
end Go.Proofs.YtnhdohednekhjaaGreatDoor
namespace Go.Proofs.YtnhdohednekhjaaGreatDoor
open Go.RowKit Go.Sort
/-- tuples of some numbers below k, in order -/
def DrW (s : Int) (n k : Nat) (R : List (List Int)) : Prop := ∃ J : List Nat, R = J.map (fun i : Nat => digL s i n) ∧ J.Pairwise (· < ·) ∧ (∀ j ∈ J, j < k) ∧ J.length ≤ k
section
variable {s : Int} {n k : Nat} {R : List (List Int)}
theorem DrW.zero : DrW s n 0 [] := ⟨[], rfl, List.Pairwise.nil, by simp, Nat.zero_le _⟩
theorem DrW.no (h : DrW s n k R) : DrW s n (k + 1) R := let ⟨J, h1, h2, h3, h4⟩ := h; ⟨J, h1, h2, fun j hj => Nat.lt_succ_of_lt (h3 j hj), Nat.le_succ_of_le h4⟩
theorem DrW.yes (h : DrW s n k R) : DrW s n (k + 1) (R ++ [digL s k n]) := by
 obtain ⟨J, rfl, h2, h3, h4⟩ := h
 refine ⟨J ++ [k], by simp, List.pairwise_append.2 ⟨h2, List.pairwise_singleton _ _, fun a ha b hb => ?_⟩, fun j hj => ?_, by simp; omega⟩
 ·rw [List.mem_singleton.1 hb]; exact h3 a ha
 ·rcases List.mem_append.1 hj with hj | hj
  ·exact Nat.lt_succ_of_lt (h3 j hj)
  ·rw [List.mem_singleton.1 hj]; exact Nat.lt_succ_self _
theorem DrW.len (h : DrW s n k R) : R.length ≤ k := by obtain ⟨J, rfl, -, -, h4⟩ := h; simpa using h4
theorem DrW.ok (h : DrW s n k R) (hs : sizeOk s) (hn : 1 ≤ n ∧ n ≤ 4) (hk : (k : Int) ≤ s ^ n) : relOk s ((n : Int), R) := by
 obtain ⟨J, rfl, h2, h3, -⟩ := h
 have hs' := hs
 unfold sizeOk at hs'
 refine ⟨hs, ⟨by show (1 : Int) ≤ n; omega, by show (n : Int) ≤ 4; omega⟩, fun i hi => ?_⟩
 have hi' : i < J.length := by simpa using hi
 refine ⟨⟨by simp [digL_len], fun a ha => ?_⟩, fun h0 => ?_⟩
 ·have : a ∈ digL s ((J[i] : Nat) : Int) n := by simpa using ha
  exact digL_in (by omega) a this
 ·have h5 := (List.pairwise_iff_getElem.1 h2) (i - 1) i (by omega) hi' (by omega)
  have h6 := h3 _ (List.getElem_mem hi')
  show ltL ((J.map fun i : Nat => digL s i n)[i - 1]'(by simp; omega)) ((J.map fun i : Nat => digL s i n)[i]'hi)
  rw [List.getElem_map, List.getElem_map]
  exact dig_lt (by omega) (by omega) (by omega) (by omega)
end
theorem srcB {sb B C : Nat} {K : Int} {w w' : World} (h : SrcR sb B K w) (hc : sb < C) (hb : Below C w w') : SrcR sb B K w' := by
 have hl := h.lt
 have hB : B ≤ sb := let ⟨_, _, _, _, _, _, _, _, _, _, _, _, _, _, h⟩ := h; h
 exact h.tch (O := fun q => C ≤ q) ⟨hb.os, hb.tape, hb.output, hb.size, fun k _ hn => hb.block k (Nat.lt_of_not_le hn)⟩ (by omega) (fun q hq => by omega)
theorem tchB {sb : Nat} {W w w' : World} (h : TchP (fun q => q = sb) W w) (hb : Below (W.heap.size + 2) w w') : TchP (fun q => q = sb) W w' :=
 ⟨hb.os.trans h.os, hb.tape.trans h.tape, hb.output.trans h.output, Nat.le_trans h.size hb.size, fun k hk hn => (hb.block k (by omega)).trans (h.block k hk hn)⟩
theorem tchS {sb g i : Nat} {v : Value} {W w : World} (h : TchP (fun q => q = sb) W w) (hg : W.heap.size ≤ g) : TchP (fun q => q = sb) W (w.setCell ⟨g, i, none⟩ v) :=
 ⟨h.os, h.tape, h.output, by rw [size_set]; exact h.size, fun k hk hn => (Below.heap_setCell _ _ _ _ (fun e => by simp at e; omega)).trans (h.block k hk hn)⟩
end Go.Proofs.YtnhdohednekhjaaGreatDoor
namespace Go.Proofs.YtnhdohednekhjaaGreatDoor
open Go.RowKit Go.Sort
end Go.Proofs.YtnhdohednekhjaaGreatDoor
namespace Go.Proofs.YtnhdohednekhjaaGreatDoor
open Go.RowKit Go.Sort
/-- new data that avoid a block -/
def FrA {α : Type} (E : Ty α) (g base : Nat) (w : World) (cs : List Value) (x : α) : Prop := ∃ fp, E.rd w cs x fp ∧ fp.Nodup ∧ (∀ b ∈ fp, base ≤ b) ∧ Unf w fp ∧ g ∉ fp
section
variable {α : Type} {E : Ty α} {g base : Nat} {w w' : World} {cs : List Value} {x : α}
theorem FrA.fr (h : FrA E g base w cs x) : E.Fr base w cs x := let ⟨fp, h1, h2, h3, h4, _⟩ := h; ⟨fp, h1, h2, h3, h4⟩
theorem FrA.lo (h : E.Fr base w cs x) (hg : g < base) : FrA E g base w cs x := let ⟨fp, h1, h2, h3, h4⟩ := h; ⟨fp, h1, h2, h3, h4, fun hm => by have := h3 g hm; omega⟩
theorem FrA.hi (h : E.Fr base w cs x) (hg : w.heap.size ≤ g) : FrA E g base w cs x := let ⟨fp, h1, h2, h3, h4⟩ := h; ⟨fp, h1, h2, h3, h4, fun hm => by have := E.lt h1 g hm; omega⟩
theorem FrA.same (h : FrA E g base w cs x) (hs : ∀ k, k < w.heap.size → k ≠ g → w'.heap[k]? = w.heap[k]?) : FrA E g base w' cs x := by
 obtain ⟨fp, h1, h2, h3, h4, h5⟩ := h
 have hs' : Same fp w w' := fun k hk => hs k (E.lt h1 k hk) (fun e => h5 (e ▸ hk))
 exact ⟨fp, E.same h1 hs', h2, h3, h4.same hs', h5⟩
theorem FrA.set (h : FrA E g base w cs x) {i : Nat} {u : Value} : FrA E g base (w.setCell ⟨g, i, none⟩ u) cs x := h.same (fun k _ hn => Below.heap_setCell _ _ _ _ (fun e => hn (by simpa using e)))
theorem FrA.below (h : FrA E g base w cs x) (hb : Below w.heap.size w w') : FrA E g base w' cs x := h.same (fun k hk _ => hb.block k hk)
theorem FrA.mono {base' : Nat} (h : FrA E g base w cs x) (hb : base' ≤ base) : FrA E g base' w cs x := let ⟨fp, h1, h2, h3, h4, h5⟩ := h; ⟨fp, h1, h2, fun b hm => Nat.le_trans hb (h3 b hm), h4, h5⟩
end
end Go.Proofs.YtnhdohednekhjaaGreatDoor
