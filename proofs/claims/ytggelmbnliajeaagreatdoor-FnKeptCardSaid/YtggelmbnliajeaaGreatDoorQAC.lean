/-
Marks: what a write into all numbers of a datum's memory changes, and what the datum then reads as. No program is named here.
Contracts: counting lists, formulas of one atom; results that lie in new memory.
Contracts: atoms whose variables are renamed.
Contracts: hiding a variable of a formula: the reference's.
Contracts: hiding a variable of a formula: the program's.
Contracts: hiding a variable of a formula: the program's.
Contracts: a copy of a list by append, the limits of formulas; the law of an append of many numbers.
Contracts: whether an operation breaks a relation, the reference's.
A region that draws its order, with loads ahead of writes: one condition on the world lets the loads be taken first; it need hold no more once one of the last writes ('tail') has come up. Every load waits for none of these, and these wait for every load. No program is named here.
Contracts: slices.Clone, an instance in new memory.
Contracts: atoms that hold; the greatest number of a row.
Plain mathematics: the lists of tuples that a finder of operations looks at; which are due at each place; whether they go.
Plain mathematics of the search: the lists of values that begin with some and go all the way, in order; what a listener is told of them. No program is named here.
Readings that avoid some blocks; a search's own data; what a listener keeps and touches; an append to a full row. No program is named here.
A row of rows whose elements point into older memory, built by appends to its own elements; what it reads as. No program is named here.
Memory of a search for operations: blocks that may be written, as a property; rows whose data lie in such blocks; a row cut short; rows of truth values; pointers to sets. No program is named here.
Contracts: a finder's data; whether what is due goes.
Contracts: the search for operations, told to a listener.
Contracts: a row of one number so many times (slices.Repeat, for the few lengths that occur).
Small lemmas of lists of tuples that both searches use. No program is named here.
 A finder's data while they are made: rows of lists that are due, each a row of its own, and a row of sets; what each append keeps. No program is named here.
A region that draws its order: what may come up when two or three may; two boxes that are filled last. No program is named here.
Contracts: a finder, made. (Its first region is printed by gen_nf.py.)
Contracts: the reference's search for operations: its data; the next value at a place; whether the conditions hold.
Contracts: the reference's next operation.
 Contracts: the reference's search for operations: the conditions of a relation.
Contracts: how many lists a finder looks at; the code of a template and an arity; polymorphisms counted, the program's.
 Contracts: the reference's search for operations, begun. (The orders of its region are printed by gen_bg.py.)
 Contracts: polymorphisms counted, the reference's; whether there is but one, both sides.
 Contracts: whether there is but one polymorphism of one place, both sides.
 Contracts: the operations that a search finds, listed: the program's listener, and the reference's.
-/
import Derived.Test.YtggelmbnliajeaaGreatDoorQAA
import Derived.Deep.RegionHeldLaw
import Derived.Test.YtggelmbnliajeaaGreatDoorQAB
import Derived.Deep.RegionLaw
import Derived.Deep.RegionHeld
import Derived.Below
import Derived.Deep.CutRange
import Derived.Laws.CopyOwn
import Derived.Deep.LoopGhost
namespace Go.Proofs.YtggelmbnliajeaaGreatDoor
open Go.RowKit

/-- all blocks but some are as before -/
structure TchF (fp : List Nat) (w w' : World) : Prop where
 os : w'.os = w.os
 tape : w'.tape = w.tape
 output : w'.output = w.output
 size : w.heap.size ≤ w'.heap.size
 block : ∀ k, k < w.heap.size → k ∉ fp → w'.heap[k]? = w.heap[k]?
theorem TchF.refl (fp : List Nat) (w : World) : TchF fp w w := ⟨rfl, rfl, rfl, Nat.le_refl _, fun _ _ _ => rfl⟩
theorem TchF.trans {fp : List Nat} {w w' w'' : World} (h : TchF fp w w') (k : TchF fp w' w'') : TchF fp w w'' :=
 ⟨k.os.trans h.os, k.tape.trans h.tape, k.output.trans h.output, Nat.le_trans h.size k.size, fun i hi hb => (k.block i (Nat.lt_of_lt_of_le hi h.size) hb).trans (h.block i hi hb)⟩
theorem TchF.mono {fp fp' : List Nat} {w w' : World} (h : TchF fp w w') (hs : ∀ k ∈ fp, k ∈ fp') : TchF fp' w w' := ⟨h.os, h.tape, h.output, h.size, fun k hk hn => h.block k hk fun hm => hn (hs k hm)⟩
theorem Below.tchF {w w' : World} (h : Below w.heap.size w w') (fp : List Nat) : TchF fp w w' := ⟨h.os, h.tape, h.output, h.size, fun k hk _ => h.block k hk⟩
theorem TchF.setCell {fp : List Nat} {b : Nat} (hb : b ∈ fp) (o : Nat) (w : World) (u : Value) : TchF fp w (w.setCell ⟨b, o, none⟩ u) :=
 ⟨rfl, rfl, rfl, by simp [World.setCell], fun k _ hk => Below.heap_setCell _ _ _ _ (fun e => hk (by rw [e]; exact hb))⟩
theorem TchF.same {fp g : List Nat} {w w' : World} (h : TchF fp w w') (hg : ∀ k ∈ g, k < w.heap.size ∧ k ∉ fp) : Same g w w' := fun k hk => h.block k (hg k hk).1 (hg k hk).2
theorem TchF.cell {fp : List Nat} {w w' : World} (h : TchF fp w w') {b o : Nat} (hb : b < w.heap.size) (hn : b ∉ fp) : w'.cell? ⟨b, o, none⟩ = w.cell? ⟨b, o, none⟩ := World.cell?_of_block (w := w) (h.block b hb hn)
theorem TchF.frozen {fp : List Nat} {w w' : World} (h : TchF fp w w') {b o : Nat} (hb : b < w.heap.size) (hn : b ∉ fp) : w'.frozen? ⟨b, o, none⟩ = w.frozen? ⟨b, o, none⟩ := World.frozen?_of_block (w := w) (h.block b hb hn)

section
variable {α : Type} {f : Int → α → α} {c : α → Int} {k : Int} {xs : List α} {i : Nat}
end
theorem rowRd.put {α : Type} {E : Ty α} {w w' : World} {b o : Nat} {xs : List α} {fps : Nat → List Nat} {i : Nat} {y : α} (h : rowRd E w b o xs fps) (_hi : i < xs.length)
  (hother : ∀ j, j < xs.length → j ≠ i → Same (fps j) w w' ∧ ∀ q, q < E.sz → w'.cell? ⟨b, o + j * E.sz + q, none⟩ = w.cell? ⟨b, o + j * E.sz + q, none⟩)
  (hthis : ∃ cs, E.rd w' cs y (fps i) ∧ ∀ j (hj : j < cs.length), w'.cell? ⟨b, o + i * E.sz + j, none⟩ = some cs[j]) : rowRd E w' b o (xs.set i y) fps := by
 intro j hj
 by_cases e : i = j
 ·subst e
  simpa using hthis
 ·have hj' : j < xs.length := by simpa using hj
  obtain ⟨cs, h1, h2⟩ := h j hj'
  obtain ⟨h3, h4⟩ := hother j hj' (fun e' => e e'.symm)
  refine ⟨cs, by rw [List.getElem_set_ne e]; exact E.same h1 h3, fun q hq => ?_⟩
  rw [h4 q (by rw [← E.len h1]; exact hq)]
  exact h2 q hq

/-! memory between two numbers -/
/-- reads so in blocks from lo up to hi, each once, none frozen -/
def Ty.Fx {α : Type} (E : Ty α) (lo hi : Nat) (w : World) (cs : List Value) (x : α) : Prop := ∃ fp, E.rd w cs x fp ∧ fp.Nodup ∧ (∀ b ∈ fp, lo ≤ b ∧ b < hi) ∧ Unf w fp
theorem Ty.Fx.rd {α : Type} {E : Ty α} {lo hi : Nat} {w : World} {cs : List Value} {x : α} (h : E.Fx lo hi w cs x) : E.Rd w cs x := let ⟨fp, h, _⟩ := h; ⟨fp, h⟩
theorem Ty.Fr.fx {α : Type} {E : Ty α} {lo : Nat} {w : World} {cs : List Value} {x : α} (h : E.Fr lo w cs x) : E.Fx lo w.heap.size w cs x :=
 let ⟨fp, h1, h2, h3, h4⟩ := h; ⟨fp, h1, h2, fun b hb => ⟨h3 b hb, E.lt h1 b hb⟩, h4⟩
theorem Ty.Fx.below {α : Type} {E : Ty α} {lo hi : Nat} {w w' : World} {cs : List Value} {x : α} (h : E.Fx lo hi w cs x) (hb : Below w.heap.size w w') : E.Fx lo hi w' cs x :=
 let ⟨fp, h1, h2, h3, h4⟩ := h
 have hs : Same fp w w' := Same.below hb (E.lt h1)
 ⟨fp, E.same h1 hs, h2, h3, h4.same hs⟩
/-- all old blocks but those from lo up to hi are as before -/
structure Tch (lo hi : Nat) (w w' : World) : Prop where
 os : w'.os = w.os
 tape : w'.tape = w.tape
 output : w'.output = w.output
 size : w.heap.size ≤ w'.heap.size
 block : ∀ k, k < w.heap.size → (k < lo ∨ hi ≤ k) → w'.heap[k]? = w.heap[k]?
theorem TchF.tch {fp : List Nat} {lo hi : Nat} {w w' : World} (h : TchF fp w w') (hf : ∀ b ∈ fp, lo ≤ b ∧ b < hi) : Tch lo hi w w' :=
 ⟨h.os, h.tape, h.output, h.size, fun k hk hn => h.block k hk fun hm => by have := hf k hm; omega⟩
theorem Tch.cell {lo hi : Nat} {w w' : World} (h : Tch lo hi w w') {b o : Nat} (hb : b < w.heap.size) (hn : b < lo ∨ hi ≤ b) : w'.cell? ⟨b, o, none⟩ = w.cell? ⟨b, o, none⟩ := World.cell?_of_block (w := w) (h.block b hb hn)
theorem Ty.Fx.tch {α : Type} {E : Ty α} {lo hi lo' hi' : Nat} {w w' : World} {cs : List Value} {x : α} (h : E.Fx lo hi w cs x) (ht : Tch lo' hi' w w') (hd : hi ≤ lo' ∨ hi' ≤ lo) : E.Fx lo hi w' cs x :=
 let ⟨fp, h1, h2, h3, h4⟩ := h
 have hs : Same fp w w' := fun k hk => ht.block k (E.lt h1 k hk) (by have := h3 k hk; omega)
 ⟨fp, E.same h1 hs, h2, h3, h4.same hs⟩
/-- an append at a step of a region that draws its order -/
theorem step_push {P : Program} {K : Act → World → Prop} {Ee : Prop} {α : Type} {E : Ty α} (w : World) {ops : Array Oper} {o : Oper} {a : Act} {Q : Exit → Act → World → Prop} (hgd : o.guard = none) (s x : Operand) (t e : TypeId) {bytes : Nat}
  (ho : o.op = .call { callee := .builtin .append, args := #[s, x], argTypes := #[t, t] }) (hT : ElT P t e E.sz bytes)
  {base top : Nat} {v : Value} {ys : List α} (hs : a.eval s = v) (hB : Bl E e base top w v ys)
  {ad : Addr} {c : Nat} {cs : List Value} {y : α} (hx : a.eval x = .slice (some ad) 1 c) (hnews : ∀ j u, cs[j]? = some u → w.cell? (ad.add j) = some u) (hy : E.Fr top w cs y)
  (hlen : ys.length ≤ 1000000000) (hby : bytes ≤ 100000) (hbt : base ≤ top) (htop : top ≤ w.heap.size)
  (h : ∀ v' w', Bl E e base w'.heap.size w' v' (ys ++ [y]) → w.grownBy w' v.ownBlock → (v'.ownBlock = v.ownBlock ∨ v'.ownBlock = some w.heap.size) → K (a.put o.dst v') w') : if Region.wanted o (yielded ops a.tmps) = true then Oper.wp P o a w K Q else Ee := by
 rw [if_pos (by simp [Region.wanted, hgd])]
 obtain ⟨L, fps, g1, g2, g3, g4, g5, g6⟩ := hB
 obtain ⟨fp, k1, k2, k3, k4⟩ := hy
 obtain ⟨i, z, ht, hi, hz, hsz, hbt', hzs, hp⟩ := id hT
 have hcl := E.len k1
 have hlen' : (ys.length + 1) * bytes ≤ 140737488355328 := Nat.le_trans (Nat.mul_le_mul (show ys.length + 1 ≤ 1000000001 by omega) hby) (by decide)
 have hbase : base ≤ w.heap.size := Nat.le_trans hbt htop
 obtain ⟨v', w', hr, h2, h3, h4⟩ := run_append_own (P := P) w base t o.type e i z E.sz bytes ht hi hz hsz hbt' hzs hp v ys.length L g1 ad 1 c cs (by omega) hnews (E.one k1) (by unfold maxLen; omega) hlen' hbase
 have hblk := run_push_block w base t o.type e hT v ys.length L g1 ad 1 c cs (by omega) hnews (E.one k1) (by unfold maxLen; omega) hlen' (by omega) v' w' hr
 have hS : ∀ k, v.ownBlock ≠ some k → k < w.heap.size → w'.heap[k]? = w.heap[k]? := fun k hk hlt => h3.block k hlt (fun he => hk he.symm)
 have hlt1 : ∀ b ∈ flat fps ys.length, b < w.heap.size := fun b hb => Nat.lt_of_lt_of_le (g4 b hb).2.1 htop
 have hlt2 : ∀ b ∈ fp, b < w.heap.size := E.lt k1
 have hS1 : Same (flat fps ys.length) w w' := fun k hk => hS k (g4 k hk).2.2 (hlt1 k hk)
 have hne : ∀ b ∈ fp, v.ownBlock ≠ some b := fun b hb he => by have := g5 b he; have := k3 b hb; omega
 have hS2 : Same fp w w' := fun k hk => hS k (hne k hk) (hlt2 k hk)
 have hBl : Bl E e base w'.heap.size w' v' (ys ++ [y]) := by
  refine ⟨L ++ cs, fun i => if i = ys.length then fp else fps i, by simpa using h2, el_add (fun i hi => ?_) g1.1 (E.same k1 hS2), ?_, ?_, ?_, ?_⟩
  ·obtain ⟨cs', h7, h8⟩ := g2 i hi
   exact ⟨cs', E.same h7 (fun k hk => hS1 k (List.mem_flatMap.2 ⟨i, by simpa using hi, hk⟩)), h8⟩
  ·rw [List.length_append, List.length_singleton, flat_add]
   exact List.nodup_append.2 ⟨g3, k2, fun a ha b hb he => by subst he; have := (g4 a ha).2.1; have := k3 a hb; omega⟩
  ·rw [List.length_append, List.length_singleton, flat_add]
   intro b hb
   have hsz' := h3.size
   rcases List.mem_append.1 hb with hb | hb
   ·refine ⟨(g4 b hb).1, by have := hlt1 b hb; omega, ?_⟩
    rcases hblk with e1 | e1 <;> rw [e1]
    ·exact (g4 b hb).2.2
    ·intro he; have := hlt1 b hb; simp at he; omega
   ·refine ⟨by have := k3 b hb; omega, by have := hlt2 b hb; omega, ?_⟩
    rcases hblk with e1 | e1 <;> rw [e1]
    ·exact hne b hb
    ·intro he; have := hlt2 b hb; simp at he; omega
  ·intro g hg
   exact (h2.lt g hg).2
  ·rw [List.length_append, List.length_singleton, flat_add]
   intro b hb
   rcases List.mem_append.1 hb with hb | hb
   ·exact g6.same hS1 b hb
   ·exact k4.same hS2 b hb
 unfold Oper.wp execOp
 simp only [ho, resolve, invoke, builtin, Sem.run_bind, Sem.run_pure, Result.andThen_ok, List.map_toArray, List.map_cons, List.map_nil, hs, hx, hr]
 exact h v' w' hBl h3 hblk
end Go.Proofs.YtggelmbnliajeaaGreatDoor
namespace Go.Proofs.YtggelmbnliajeaaGreatDoor
open Go.RowKit Go.Sort

/-- a struct in new memory, and a code -/
def RetAC {α : Type} (E : Ty α) (w : World) (x : α) (c : Int) (e : Ending) (w' : World) : Prop := ∃ cs : List Value, e = .returned (.tuple #[.agg cs.toArray, .int .i64 c]) ∧ E.Fr w.heap.size w' cs x ∧ Below w.heap.size w w'
/-- a slice in new memory, and a code -/
def RetSC {α : Type} (E : Ty α) (w : World) (x : α) (c : Int) (e : Ending) (w' : World) : Prop := ∃ u, e = .returned (.tuple #[u, .int .i64 c]) ∧ E.Fr w.heap.size w' [u] x ∧ Below w.heap.size w w'
section
variable {t : Int × List (Int × List (List Int))} {rel : Int}
end
end Go.Proofs.YtggelmbnliajeaaGreatDoor
namespace Go.Proofs.YtggelmbnliajeaaGreatDoor
open Go.RowKit Go.Sort
theorem news2 {w : World} {u u' : Value} {T : TypeId} : ∀ j x, [u, u'][j]? = some x → (w.alloc (.cells #[u, u'] T)).cell? ((⟨w.heap.size, 0, none⟩ : Addr).add j) = some x := by
 intro j x h
 match j with
 | 0 => simp at h; subst h; simp [Addr.add]
 | 1 => simp at h; subst h; simp [Addr.add]
 | j + 2 => simp at h
end Go.Proofs.YtggelmbnliajeaaGreatDoor
namespace Go.Proofs.YtggelmbnliajeaaGreatDoor
open Go.RowKit Go.Sort
section
variable (t : Int × List (Int × List (List Int))) (f : Int × Int × List (Int × List Int)) (v : Int)
end
section
variable {t : Int × List (Int × List (List Int))} {f : Int × Int × List (Int × List Int)} {v : Int}
end
theorem wrap_small {n : Int} (h0 : -1000000000000000000 ≤ n) (h1 : n ≤ 1000000000000000000) : IntKind.i64.wrap n = n := by
 simp [IntKind.wrap, IntKind.signed, IntKind.bits]
 omega
end Go.Proofs.YtggelmbnliajeaaGreatDoor
namespace Go.Proofs.YtggelmbnliajeaaGreatDoor
open Go.RowKit Go.Sort
theorem map_take {g : Int → Int} {xs : List Int} {k : Nat} (h : k < xs.length) : (xs.take k).map g ++ [g xs[k]] = (xs.take (k + 1)).map g := by
 rw [List.take_succ_eq_append_getElem h, List.map_append]
 rfl
theorem size_set {w : World} {a : Addr} {u : Value} : (w.setCell a u).heap.size = w.heap.size := by simp [World.setCell]
theorem ex_slice {α : Type} {E : Ty α} {base : Nat} {w : World} {u : Value} {x : List α} (h : (Ty.slice E).Fr base w [u] x) : ∃ ad n cap, u = .slice ad n cap := let ⟨a, c, h⟩ := fr_slice h; ⟨a, _, c, h⟩
theorem rd_sl {α : Type} {E : Ty α} {w : World} {u : Value} {x : List α} (h : (Ty.slice E).Rd w [u] x) : ∃ ad n cap, u = .slice ad n cap := let ⟨a, c, h⟩ := rd_slice h; ⟨a, _, c, h⟩
end Go.Proofs.YtggelmbnliajeaaGreatDoor
namespace Go.Proofs.YtggelmbnliajeaaGreatDoor
open Go.RowKit Go.Sort
end Go.Proofs.YtggelmbnliajeaaGreatDoor
namespace Go.Proofs.YtggelmbnliajeaaGreatDoor
open Go.RowKit Go.Sort
theorem flat_nil (n : Nat) : flat (fun _ => []) n = [] := List.eq_nil_iff_forall_not_mem.2 fun x hx => by obtain ⟨_, _, h⟩ := List.mem_flatMap.1 hx; cases h
theorem wpList_appI {P : Program} (w : World) {ops : Array Oper} {rest : List Oper} {o : Oper} {a : Act} {Q : Exit → Act → World → Prop} (hgd : o.guard = none) (s x : Operand) (t e : TypeId) {bytes : Nat}
  (ho : o.op = .call { callee := .builtin .append, args := #[s, x], argTypes := #[t, t] }) (hT : ElT P t e 1 bytes)
  {base top : Nat} {v : Value} {ys : List Int} (hs : a.eval s = v) (hB : Bl Ty.int e base top w v ys)
  {u : Value} {xs : List Int} (hx : a.eval x = u) (hr : intsT.Rd w [u] xs) (h0 : 0 < xs.length)
  (hlen : ys.length + xs.length ≤ 1000000000) (hby : bytes ≤ 100000) (hbt : base ≤ top) (htop : top ≤ w.heap.size)
  (h : ∀ v' w', Bl Ty.int e base w'.heap.size w' v' (ys ++ xs) → w.grownBy w' v.ownBlock → (v'.ownBlock = v.ownBlock ∨ v'.ownBlock = some w.heap.size) → wpList P ops Q rest (a.put o.dst v') w') : wpList P ops Q (o :: rest) a w := by
 obtain ⟨L, fps, g1, g2, g3, g4, g5, g6⟩ := hB
 obtain ⟨ad', cap', hu, hl, hc, hcell⟩ := ints_ex hr
 obtain ⟨b, o', rfl, hb, hce⟩ := hcell h0
 obtain rfl : u = .slice (some ⟨b, o', none⟩) xs.length cap' := by simpa using hu
 obtain ⟨i, z, ht, hi, hz, hsz, hbt', hzs, hp⟩ := id hT
 have hnews : ∀ (j : Nat) (u : Value), (xs.map (Value.int .i64))[j]? = some u → w.cell? ((⟨b, o', none⟩ : Addr).add j) = some u := by
  intro j u hj
  rw [List.getElem?_map] at hj
  by_cases hjl : j < xs.length
  ·rw [List.getElem?_eq_getElem hjl] at hj
   simp only [Option.map_some, Option.some.injEq] at hj
   subst hj
   have := (hce j hjl).2
   by_cases hj0 : j = 0
   ·subst hj0
    simpa [Addr.add] using this
   ·simpa [Addr.add, hj0] using this
  ·rw [List.getElem?_eq_none (by omega)] at hj
   simp at hj
 have hone : ∀ u ∈ xs.map (Value.int .i64), u.oneCell' = true := by
  intro u hu
  obtain ⟨n, _, rfl⟩ := List.mem_map.1 hu
  rfl
 have hnl : (xs.map (Value.int .i64)).length = xs.length * 1 := by simp
 have hlen' : (ys.length + xs.length) * bytes ≤ 140737488355328 := Nat.le_trans (Nat.mul_le_mul hlen hby) (by decide)
 have hbase : base ≤ w.heap.size := Nat.le_trans hbt htop
 have hLl : L.length = ys.length := by have := g1.1; simpa [Ty.int] using this
 refine wpList_plain hgd fun K hK => ?_
 obtain ⟨v', w', hr', h2, h3, h4⟩ := run_append_own (P := P) w base t o.type e i z 1 bytes ht hi hz hsz hbt' hzs hp v ys.length L g1 ⟨b, o', none⟩ xs.length cap' _ hnl hnews hone (by unfold maxLen; omega) hlen' hbase
 have hblk := run_push_block w base t o.type e hT v ys.length L g1 ⟨b, o', none⟩ xs.length cap' _ hnl hnews hone (by unfold maxLen; omega) hlen' h0 v' w' hr'
 have hBl : Bl Ty.int e base w'.heap.size w' v' (ys ++ xs) := by
  refine ⟨L ++ xs.map (Value.int .i64), fun _ => [], by simpa [Ty.int] using h2, fun j hj => ?_, by rw [flat_nil]; exact List.nodup_nil, by rw [flat_nil]; simp, fun g hg => (h2.lt g hg).2, by rw [flat_nil]; intro b hb; cases hb⟩
  by_cases hjy : j < ys.length
  ·obtain ⟨cs, ⟨rfl, hI, _⟩, hk⟩ := g2 j hjy
   refine ⟨[.int .i64 (ys ++ xs)[j]], ⟨rfl, by rw [List.getElem_append_left hjy]; exact hI, rfl⟩, fun q hq => ?_⟩
   obtain rfl : q = 0 := by simpa using hq
   have := hk 0 (by simp)
   rw [List.getElem?_append_left (by rw [hLl]; simp [Ty.int]; exact hjy)]
   simpa [List.getElem_append_left hjy] using this
  ·have hj' : j - ys.length < xs.length := by rw [List.length_append] at hj; omega
   have hge : (ys ++ xs)[j] = xs[j - ys.length] := List.getElem_append_right (by omega)
   refine ⟨[.int .i64 (ys ++ xs)[j]], ⟨rfl, by rw [hge]; exact (hce _ hj').1, rfl⟩, fun q hq => ?_⟩
   obtain rfl : q = 0 := by simpa using hq
   rw [List.getElem?_append_right (by rw [hLl]; simp [Ty.int]; omega), hLl]
   simp [Ty.int, hge, hj']
 unfold Oper.wp execOp
 simp only [ho, resolve, invoke, builtin, Sem.run_bind, Sem.run_pure, Result.andThen_ok, List.map_toArray, List.map_cons, List.map_nil, hs, hx, hr']
 exact hK _ _ (h v' w' hBl h3 hblk)
set_option maxHeartbeats 800000 in
theorem l00Own_any (w : World) {v : Value} {xs : List Int} (h : intsT.Rd w [v] xs) (hlen : xs.length ≤ 1000000) :
  Calls Tryz.prog 120 #[v] w fun e w' => ∃ u, e = .returned u ∧ Bl Ty.int 2 w.heap.size w'.heap.size w' u xs ∧ Below w.heap.size w w' := by
 have hx := h
 obtain ⟨ad, cap, rfl⟩ := rd_slice h
 have HX := Lib.hid hx
 rcases Nat.eq_zero_or_pos xs.length with h0 | h0
 ·obtain rfl := List.eq_nil_of_length_eq_zero h0
  clear h hx h0 HX
  cases ad
  all_goals
   go_enter Tryz.func120, Tryz.ntmps120
   go_wp2_with fail
   go_ret
   exact ⟨_, rfl, by simpa using Bl.lit0 (E := Ty.int) (e := 2) (w := w) (Nat.le_refl _), bA⟩
 ·clear h hx
  have HB := Lib.hid (Bl.lit0 (E := Ty.int) (e := 2) (base := w.heap.size) (w := w) (Nat.le_refl _))
  go_enter Tryz.func120, Tryz.ntmps120
  go_wp2_with (refine wpList_appI _ rfl _ _ 42 2 rfl elInt rfl HB.out rfl (HX.out.below bA) h0 (by simp; omega) (by decide) (by omega) (by simp) ?_; intro v1 w1 hB1 hg1 _)
  have HB1 := Lib.hid hB1
  have hb1 : Below w.heap.size w w1 := (bA (w := w)).grown hg1 (by simp) (fun k hk => HB.out.own hk)
  clear hB1
  go_wp2_with fail
  go_ret
  exact ⟨_, rfl, HB1.out, hb1⟩
end Go.Proofs.YtggelmbnliajeaaGreatDoor
namespace Go.Proofs.YtggelmbnliajeaaGreatDoor
open Go.RowKit Go.Sort
theorem rel_len_le {s : Int} {r : Int × List (List Int)} (hr : relOk s r) : (r.2.length : Int) ≤ s ^ r.1.toNat ∧ s ^ r.1.toNat ≤ 256 := by
 have hs := hr.1
 have hm := hr.2.1
 unfold sizeOk at hs hm
 have hp : 0 ≤ s ^ r.1.toNat := pow_nn (by omega) _
 constructor
 ·have hN : ((r.2.map fun x => (idxL s 0 x).toNat)).Nodup := by
   rw [List.Nodup, List.pairwise_map]
   refine List.Pairwise.imp_of_mem ?_ (sortedL_nodup (relOk_sorted hr))
   intro a b ha hb hab e
   obtain ⟨i, hi, rfl⟩ := List.mem_iff_getElem.1 ha
   obtain ⟨j, hj, rfl⟩ := List.mem_iff_getElem.1 hb
   obtain ⟨a1, a2⟩ := (hr.2.2 i hi).1
   obtain ⟨b1, b2⟩ := (hr.2.2 j hj).1
   have ha3 := idx_lt (m := r.1.toNat) hs.1 (by omega) a2
   have hb3 := idx_lt (m := r.1.toNat) hs.1 (by omega) b2
   exact hab (idxL_inj hs.1 r.1.toNat (by omega) (by omega) a2 b2 (by omega))
  have := nodup_lt_len (s ^ r.1.toNat).toNat _ hN fun x hx => by
   obtain ⟨y, hy, rfl⟩ := List.mem_map.1 hx
   obtain ⟨i, hi, rfl⟩ := List.mem_iff_getElem.1 hy
   obtain ⟨a1, a2⟩ := (hr.2.2 i hi).1
   have ha3 := idx_lt (m := r.1.toNat) hs.1 (by omega) a2
   omega
  rw [List.length_map] at this
  omega
 ·refine Int.le_trans (pow_mono' (by omega) (show s ≤ 4 by omega) r.1.toNat) ?_
  rcases (show r.1.toNat = 1 ∨ r.1.toNat = 2 ∨ r.1.toNat = 3 ∨ r.1.toNat = 4 by omega) with e | e | e | e <;> rw [e] <;> decide
/-- as far as k all are kept -/
def keptTo (s : Int) (f : Int × List Int) (r : Int × List (List Int)) (k : Nat) : Prop := ∀ i : Nat, i < k → makes s f r i ∈ r.2
theorem keptTo_zero {s : Int} {f : Int × List Int} {r : Int × List (List Int)} : keptTo s f r 0 := fun _ h => absurd h (Nat.not_lt_zero _)
theorem keptTo_succ {s : Int} {f : Int × List Int} {r : Int × List (List Int)} {k : Nat} (h : keptTo s f r k) (h' : makes s f r k ∈ r.2) : keptTo s f r (k + 1) := fun i hi => by
 by_cases e : i = k
 ·subst e; exact h'
 ·exact h i (by omega)
theorem keepsP_of {s : Int} {f : Int × List Int} {r : Int × List (List Int)} {M : Nat} (hM : (r.2.length : Int) ^ f.1.toNat = M) (h : keptTo s f r M) : keepsP s f r := fun i hi => h i (by rw [hM] at hi; omega)
theorem keepsP_not {s : Int} {f : Int × List Int} {r : Int × List (List Int)} {M k : Nat} (hM : (r.2.length : Int) ^ f.1.toNat = M) (hk : k < M) (h : ¬ makes s f r k ∈ r.2) : ¬ keepsP s f r := fun hh => h (hh k (by rw [hM]; omega))
/-- the slices that stand in a row read as the first tuples -/
def picked (w : World) (vs : List Value) (ts : List (List Int)) : Prop := vs.length ≤ ts.length ∧ ∀ i (h : i < vs.length) (h' : i < ts.length), intsT.Rd w [vs[i]] ts[i]
theorem picked_nil {w : World} {ts : List (List Int)} : picked w [] ts := ⟨Nat.zero_le _, fun i h => by simp at h⟩
theorem picked.below {w w' : World} {vs : List Value} {ts : List (List Int)} (h : picked w vs ts) (hb : Below w.heap.size w w') : picked w' vs ts := ⟨h.1, fun i h1 h2 => (h.2 i h1 h2).below hb⟩
theorem picked_snoc {w : World} {vs : List Value} {ts : List (List Int)} {u : Value} (h : picked w vs ts) (hl : vs.length < ts.length) (hu : intsT.Rd w [u] ts[vs.length]) : picked w (vs ++ [u]) ts := by
 refine ⟨by simp; omega, fun i h1 h2 => ?_⟩
 by_cases e : i = vs.length
 ·subst e; simpa using hu
 ·have hi : i < vs.length := by simp at h1; omega
  rw [List.getElem_append_left hi]
  exact h.2 i hi h2
theorem picks_get {ts : List (List Int)} {ar : Nat} {i : Int} {j dn : Nat} (hj : j < (digL ts.length i ar).length) (hd : (digL ts.length i ar)[j] = (dn : Int)) (hdn : dn < ts.length) (h : j < (picks ts ar i).length) : (picks ts ar i)[j] = ts[dn] := by
 simp only [picks, List.getElem_map, hd, Int.toNat_natCast, List.getD_eq_getElem?_getD, List.getElem?_eq_getElem hdn, Option.getD_some]
/-- the first relation that is broken, or -1 -/
noncomputable def brokenI (t : Int × List (Int × List (List Int))) (f : Int × List Int) : Int := firstI (fun r => !tb (keepsP t.1 f r)) t.2
end Go.Proofs.YtggelmbnliajeaaGreatDoor
namespace Go.Proofs.YtggelmbnliajeaaGreatDoor
theorem cellB {B b o : Nat} {w w' : World} (hb : RowKit.Below B w w') (h : b < B) : w'.cell? ⟨b, o, none⟩ = w.cell? ⟨b, o, none⟩ := hb.cell (p := ⟨b, o, none⟩) h
theorem frozenB {B b o : Nat} {w w' : World} (hb : RowKit.Below B w w') (h : b < B) : w'.frozen? ⟨b, o, none⟩ = w.frozen? ⟨b, o, none⟩ := hb.frozen (p := ⟨b, o, none⟩) h


section
variable {P : Program} {ops : Array Oper} {Q : Exit → Act → World → Prop} {md : Region.Mode} {S : World → Prop} {tail : List Nat}

/-- one of the last writes has come up -/
def pastB (tail : List Nat) (listed : Array Bool) : Bool := tail.any fun t => listed.getD t false

def wpAnyT (P : Program) (md : Region.Mode) (ops : Array Oper) (Q : Exit → Act → World → Prop) (S : World → Prop) (tail : List Nat) : Nat → Array Bool → Act → World → Prop
 | 0, listed, a, w => Region.ready md ops listed = [] ∧ Q .normal a w
 | fuel + 1, listed, a, w =>
  (Region.ready md ops listed = [] → Q .normal a w) ∧
  ∀ i ∈ Region.ready md ops listed, wpOp P ops Q i (fun a' w' => (pastB tail (listed.setIfInBounds i true) = false → S w') ∧ wpAnyT P md ops Q S tail fuel (listed.setIfInBounds i true) a' w') a w

theorem wpAny_of_T : ∀ (fuel : Nat) (listed : Array Bool) (a : Act) (w : World), wpAnyT P md ops Q S tail fuel listed a w → wpAny P md ops Q fuel listed a w
 | 0, _, _, _, h => h
 | fuel + 1, _, _, _, h => ⟨h.1, fun i hi => wpOp_mono (fun a' w' h' => wpAny_of_T fuel _ a' w' h'.2) (h.2 i hi)⟩

/-- what can come up while number i has not: all that are in R -/
def lowB (md : Region.Mode) (ops : Array Oper) (i : Nat) (listed R : Array Bool) (tail : List Nat) : Bool :=
 ((List.range ops.size).all fun k => k == i || R.getD k false || match ops[k]? with
  | some o => o.after.any fun e => Region.binds md e && !R.getD e.on false
  | none => true) && ((List.range ops.size).all fun k => !listed.getD k false || R.getD k false) && tail.all fun t => !R.getD t false && decide (t < ops.size) && t != i
/-- these -/
def grow1 (md : Region.Mode) (ops : Array Oper) (i : Nat) (R : Array Bool) : Array Bool :=
 (Array.range ops.size).map fun k => R.getD k false || (k != i && match ops[k]? with
  | some o => o.after.all fun e => !Region.binds md e || R.getD e.on false
  | none => false)
def lowSet (md : Region.Mode) (ops : Array Oper) (i : Nat) (listed : Array Bool) : Nat → Array Bool
 | 0 => listed
 | n + 1 => grow1 md ops i (lowSet md ops i listed n)
def lateB (md : Region.Mode) (ops : Array Oper) (i : Nat) (listed : Array Bool) (tail : List Nat) : Bool := lowB md ops i listed (lowSet md ops i listed ops.size) tail

structure Low (md : Region.Mode) (ops : Array Oper) (i : Nat) (R : Array Bool) (tail : List Nat) : Prop where
 up : ∀ (k : Nat) (o : Oper), ops[k]? = some o → k ≠ i → (∀ e ∈ o.after, Region.binds md e = true → R.getD e.on false = true) → R.getD k false = true
 out : ∀ t ∈ tail, R.getD t false = false
 ne : ∀ t ∈ tail, t ≠ i
theorem lowB_spec {i : Nat} {listed R : Array Bool} (h : lowB md ops i listed R tail = true) : Low md ops i R tail ∧ ∀ k, k < ops.size → listed.getD k false = true → R.getD k false = true := by
 unfold lowB at h
 simp only [Bool.and_eq_true, List.all_eq_true, List.mem_range] at h
 obtain ⟨⟨h1, h2⟩, h3⟩ := h
 refine ⟨⟨fun k o ho hk hd => ?_, fun t ht => by have := (h3 t ht).1.1; simpa using this, fun t ht => by have := (h3 t ht).2; simpa using this⟩, fun k hk hl => ?_⟩
 ·have hks : k < ops.size := by
   rcases Nat.lt_or_ge k ops.size with h' | h'
   ·exact h'
   ·rw [Array.getElem?_eq_none h'] at ho; cases ho
  have := h1 k hks
  rw [ho] at this
  simp only [Bool.or_eq_true, beq_iff_eq] at this
  rcases this with (rfl | h') | h'
  ·exact absurd rfl hk
  ·exact h'
  ·simp only [Array.any_eq_true, Bool.and_eq_true, Bool.not_eq_true'] at h'
   obtain ⟨x, hx, hb⟩ := h'
   rw [hd _ (Array.getElem_mem hx) hb.1] at hb
   cases hb.2
 ·have := h2 k hk
  rw [hl] at this
  simpa using this

theorem low_step {i j : Nat} {listed R : Array Bool} (hL : Low md ops i R tail) (hsub : ∀ k, k < ops.size → listed.getD k false = true → R.getD k false = true) (hbd : ∀ (k : Nat) (o : Oper), ops[k]? = some o → ∀ e ∈ o.after, Region.binds md e = true → e.on < ops.size)
  (hj : j ∈ Region.ready md ops listed) (hji : j ≠ i) : R.getD j false = true ∧ ∀ k, k < ops.size → (listed.setIfInBounds j true).getD k false = true → R.getD k false = true := by
 obtain ⟨-, oj, hoj, hall⟩ := mem_ready.1 hj
 have hR : R.getD j false = true := hL.up j oj hoj hji fun e he hb => hsub e.on (hbd j oj hoj e he hb) (hall e he hb)
 refine ⟨hR, fun k hk hl => ?_⟩
 by_cases e : j = k
 ·subst e; exact hR
 ·rw [getD_set_ne false e] at hl; exact hsub k hk hl

theorem past_false {R listed : Array Bool} {i : Nat} (hL : Low md ops i R tail) (ht : ∀ t ∈ tail, t < ops.size) (hsub : ∀ k, k < ops.size → listed.getD k false = true → R.getD k false = true) : pastB tail listed = false := by
 unfold pastB
 rw [List.any_eq_false]
 intro t htl hh
 have := hsub t (ht t htl) hh
 rw [hL.out t htl] at this
 cases this

theorem wpAnyT_first {i : Nat} {oi : Oper} {v : Value} (hi : ops[i]? = some oi) (hsel : ∀ (j : Nat) (o : Oper) cs b, ops[j]? = some o → o.op ≠ .select cs b)
  (hQ : ∀ c a w, Q (.panic c) (a.put oi.dst v) w → Q (.panic c) a w) {R : Array Bool} (hL : Low md ops i R tail) (ht : ∀ t ∈ tail, t < ops.size) (hbd : ∀ (k : Nat) (o : Oper), ops[k]? = some o → ∀ e ∈ o.after, Region.binds md e = true → e.on < ops.size) :
  ∀ (fuel : Nat) (listed : Array Bool) (a : Act) (w : World),
   (∀ j oj, ops[j]? = some oj → j ≠ i → listed.getD j true = false → (∀ e ∈ oj.after, Region.binds md e = true → e.on ≠ i) → oi.apart ops oj = true) →
   i ∈ Region.ready md ops listed → YieldsIf P ops S oi v a → S w → (∀ k, k < ops.size → listed.getD k false = true → R.getD k false = true) →
   wpAnyT P md ops Q S tail fuel (listed.setIfInBounds i true) (a.put oi.dst v) w → wpAnyT P md ops Q S tail (fuel + 1) listed a w := by
 intro fuel
 induction fuel with
 | zero =>
  intro listed a w _ hr hy hS hsub H
  refine ⟨fun h => (by rw [h] at hr; cases hr), fun j hj => ?_⟩
  by_cases hji : j = i
  ·subst hji; exact hy.wpOp hi hS ⟨fun _ => hS, H⟩
  ·have := ready_mono hj hji
   rw [H.1] at this
   cases this
 | succ fuel ih =>
  intro listed a w hfree hr hy hS hsub H
  refine ⟨fun h => (by rw [h] at hr; cases hr), fun j hj => ?_⟩
  by_cases hji : j = i
  ·subst hji; exact hy.wpOp hi hS ⟨fun _ => hS, H⟩
  ·have h1 := H.2 j (ready_mono hj hji)
   obtain ⟨hjun, oj, hoj, hall⟩ := mem_ready.1 hj
   have hnot : ∀ e ∈ oj.after, Region.binds md e = true → e.on ≠ i := fun e he hb heq => by
    have h1 := hall e he hb
    have h0 := (mem_ready.1 hr).1
    rw [heq] at h1
    rcases Nat.lt_or_ge i listed.size with h' | h'
    ·simp [h'] at h0 h1; rw [h0] at h1; cases h1
    ·simp [Array.getElem?_eq_none h'] at h1
   have h2 := wpOp_putIf hoj (hfree j oj hoj hji hjun hnot) (fun cs b => hsel i oi cs b hi) (fun cs b => hsel j oj cs b hoj) hQ hy h1
   have hfree' : ∀ k ok, ops[k]? = some ok → k ≠ i → (listed.setIfInBounds j true).getD k true = false →
     (∀ e ∈ ok.after, Region.binds md e = true → e.on ≠ i) → oi.apart ops ok = true := fun k ok hk hki hun hno => by
    refine hfree k ok hk hki ?_ hno
    by_cases hjk : j = k
    ·subst hjk; exact hjun
    ·rw [getD_set_ne true hjk] at hun; exact hun
   obtain ⟨-, hsub'⟩ := low_step hL hsub hbd hj hji
   have hp : pastB tail ((listed.setIfInBounds i true).setIfInBounds j true) = false := by
    have h0 := past_false hL ht hsub'
    rw [Array.setIfInBounds_comm _ _ (Ne.symm hji)]
    unfold pastB at h0 ⊢
    rw [List.any_eq_false] at h0 ⊢
    intro t htl hh
    rw [getD_set_ne false (Ne.symm (hL.ne t htl))] at hh
    exact h0 t htl hh
   refine wpOp_mono (fun a' w' h3 => ⟨fun _ => h3.2.1 hp, ih (listed.setIfInBounds j true) a' w' hfree' (ready_mono hr (Ne.symm hji)) h3.1 (h3.2.1 hp) hsub' ?_⟩) h2
   rw [Array.setIfInBounds_comm _ _ hji]
   exact h3.2.2

/-- every edge leads to an operation -/
def edgesB (md : Region.Mode) (ops : Array Oper) : Bool := ops.all fun o => o.after.all fun e => !Region.binds md e || decide (e.on < ops.size)
theorem edgesB_spec (h : edgesB md ops = true) : ∀ (k : Nat) (o : Oper), ops[k]? = some o → ∀ e ∈ o.after, Region.binds md e = true → e.on < ops.size := by
 intro k o ho e he hb
 have h1 := Array.all_eq_true_iff_forall_mem.1 h o (Array.mem_of_getElem? ho)
 have h2 := Array.all_eq_true_iff_forall_mem.1 h1 e he
 simpa [hb] using h2

/-- take number i first -/
theorem wpAnyT_take {i : Nat} {oi : Oper} {v : Value} {fuel : Nat} {listed : Array Bool} {a : Act} {w : World} (hi : ops[i]? = some oi)
  (hs : (Region.noSelect ops && edgesB md ops && Region.free md ops listed i && (Region.ready md ops listed).contains i && lateB md ops i listed tail) = true)
  (hQ : ∀ c a w, Q (.panic c) (a.put oi.dst v) w → Q (.panic c) a w) (hy : YieldsIf P ops S oi v a) (hS : S w)
  (h : wpAnyT P md ops Q S tail fuel (listed.setIfInBounds i true) (a.put oi.dst v) w) : wpAnyT P md ops Q S tail (fuel + 1) listed a w := by
 simp only [Bool.and_eq_true] at hs
 obtain ⟨⟨⟨⟨s1, s2⟩, s3⟩, s4⟩, s5⟩ := hs
 obtain ⟨hL, hsub⟩ := lowB_spec s5
 have ht : ∀ t ∈ tail, t < ops.size := fun t ht => by
  unfold lateB lowB at s5
  simp only [Bool.and_eq_true, List.all_eq_true] at s5
  simpa using (s5.2 t ht).1.2
 exact wpAnyT_first hi (Region.noSelect_spec s1) hQ hL ht (edgesB_spec s2) fuel listed a w (Region.free_spec hi s3) (by simpa using s4) hy hS hsub h

/-- what yields in whatever world: taken first, also where the condition holds no more -/
theorem wpAnyT_free {i : Nat} {oi : Oper} {v : Value} (hi : ops[i]? = some oi) (hsel : ∀ (j : Nat) (o : Oper) cs b, ops[j]? = some o → o.op ≠ .select cs b)
  (hQ : ∀ c a w, Q (.panic c) (a.put oi.dst v) w → Q (.panic c) a w) (hti : i ∉ tail) :
  ∀ (fuel : Nat) (listed : Array Bool) (a : Act) (w : World),
   (∀ j oj, ops[j]? = some oj → j ≠ i → listed.getD j true = false → (∀ e ∈ oj.after, Region.binds md e = true → e.on ≠ i) → oi.apart ops oj = true) →
   i ∈ Region.ready md ops listed → YieldsIf P ops (fun _ => True) oi v a → (pastB tail listed = false → S w) →
   wpAnyT P md ops Q S tail fuel (listed.setIfInBounds i true) (a.put oi.dst v) w → wpAnyT P md ops Q S tail (fuel + 1) listed a w := by
 have hpi : ∀ L : Array Bool, pastB tail (L.setIfInBounds i true) = pastB tail L := fun L => by
  unfold pastB
  rw [Bool.eq_iff_iff]
  simp only [List.any_eq_true]
  constructor
  ·rintro ⟨t, h1, h2⟩; exact ⟨t, h1, by rwa [getD_set_ne false (show i ≠ t from fun e => hti (by rw [e]; exact h1))] at h2⟩
  ·rintro ⟨t, h1, h2⟩; exact ⟨t, h1, by rwa [getD_set_ne false (show i ≠ t from fun e => hti (by rw [e]; exact h1))]⟩
 intro fuel
 induction fuel with
 | zero =>
  intro listed a w _ hr hy hS H
  refine ⟨fun h => (by rw [h] at hr; cases hr), fun j hj => ?_⟩
  by_cases hji : j = i
  ·subst hji; exact hy.wpOp hi trivial ⟨fun hp => hS (by rw [← hpi]; exact hp), H⟩
  ·have := ready_mono hj hji
   rw [H.1] at this
   cases this
 | succ fuel ih =>
  intro listed a w hfree hr hy hS H
  refine ⟨fun h => (by rw [h] at hr; cases hr), fun j hj => ?_⟩
  by_cases hji : j = i
  ·subst hji; exact hy.wpOp hi trivial ⟨fun hp => hS (by rw [← hpi]; exact hp), H⟩
  ·have h1 := H.2 j (ready_mono hj hji)
   obtain ⟨hjun, oj, hoj, hall⟩ := mem_ready.1 hj
   have hnot : ∀ e ∈ oj.after, Region.binds md e = true → e.on ≠ i := fun e he hb heq => by
    have h1 := hall e he hb
    have h0 := (mem_ready.1 hr).1
    rw [heq] at h1
    rcases Nat.lt_or_ge i listed.size with h' | h'
    ·simp [h'] at h0 h1; rw [h0] at h1; cases h1
    ·simp [Array.getElem?_eq_none h'] at h1
   have h2 := wpOp_putIf hoj (hfree j oj hoj hji hjun hnot) (fun cs b => hsel i oi cs b hi) (fun cs b => hsel j oj cs b hoj) hQ hy h1
   have hfree' : ∀ k ok, ops[k]? = some ok → k ≠ i → (listed.setIfInBounds j true).getD k true = false →
     (∀ e ∈ ok.after, Region.binds md e = true → e.on ≠ i) → oi.apart ops ok = true := fun k ok hk hki hun hno => by
    refine hfree k ok hk hki ?_ hno
    by_cases hjk : j = k
    ·subst hjk; exact hjun
    ·rw [getD_set_ne true hjk] at hun; exact hun
   refine wpOp_mono (fun a' w' h3 => ⟨fun hp => h3.2.1 (by rw [Array.setIfInBounds_comm _ _ (Ne.symm hji), hpi]; exact hp), ih (listed.setIfInBounds j true) a' w' hfree' (ready_mono hr (Ne.symm hji)) h3.1 (fun hp => h3.2.1 (by rw [Array.setIfInBounds_comm _ _ (Ne.symm hji), hpi]; exact hp)) ?_⟩) h2
   rw [Array.setIfInBounds_comm _ _ hji]
   exact h3.2.2
theorem wpAnyT_any {i : Nat} {oi : Oper} {v : Value} {fuel : Nat} {listed : Array Bool} {a : Act} {w : World} (hi : ops[i]? = some oi)
  (hs : (Region.noSelect ops && Region.free md ops listed i && (Region.ready md ops listed).contains i && !tail.contains i) = true)
  (hQ : ∀ c a w, Q (.panic c) (a.put oi.dst v) w → Q (.panic c) a w) (hy : YieldsIf P ops (fun _ => True) oi v a) (hS : pastB tail listed = false → S w)
  (h : wpAnyT P md ops Q S tail fuel (listed.setIfInBounds i true) (a.put oi.dst v) w) : wpAnyT P md ops Q S tail (fuel + 1) listed a w := by
 simp only [Bool.and_eq_true] at hs
 obtain ⟨⟨⟨s1, s2⟩, s3⟩, s4⟩ := hs
 exact wpAnyT_free hi (Region.noSelect_spec s1) hQ (by simpa using s4) fuel listed a w (Region.free_spec hi s2) (by simpa using s3) hy hS h

/-- one alone may come up: not one of the last -/
theorem wpAnyT_one {i : Nat} {o : Oper} {fuel : Nat} {listed : Array Bool} {a : Act} {w : World} (ho : ops[i]? = some o) (hr : Region.ready md ops listed = [i])
  (h : ∀ K' : Act → World → Prop, Shut (∀ a w, S w → (S w → wpAnyT P md ops Q S tail fuel (listed.setIfInBounds i true) a w) → K' a w) → if Region.wanted o (yielded ops a.tmps) = true then Oper.wp P o a w K' Q else K' (a.put o.dst undef) w) :
  wpAnyT P md ops Q S tail (fuel + 1) listed a w := by
 refine ⟨fun h0 => (by rw [h0] at hr; cases hr), fun j hj => ?_⟩
 rw [hr] at hj
 obtain rfl : j = i := by simpa using hj
 exact wpOp_step ho (fun K' hK => h K' (fun a w hS hW => hK a w ⟨fun _ => hS, hW hS⟩))
/-- one alone may come up: one of the last, or behind them -/
theorem wpAnyT_last {i : Nat} {o : Oper} {fuel : Nat} {listed : Array Bool} {a : Act} {w : World} (ho : ops[i]? = some o) (hr : Region.ready md ops listed = [i]) (hp : pastB tail (listed.setIfInBounds i true) = true)
  (h : ∀ K' : Act → World → Prop, Shut (∀ a w, wpAnyT P md ops Q S tail fuel (listed.setIfInBounds i true) a w → K' a w) → if Region.wanted o (yielded ops a.tmps) = true then Oper.wp P o a w K' Q else K' (a.put o.dst undef) w) :
  wpAnyT P md ops Q S tail (fuel + 1) listed a w := by
 refine ⟨fun h0 => (by rw [h0] at hr; cases hr), fun j hj => ?_⟩
 rw [hr] at hj
 obtain rfl : j = i := by simpa using hj
 exact wpOp_step ho (fun K' hK => h K' (fun a w hW => hK a w ⟨fun h => (by rw [hp] at h; cases h), hW⟩))
theorem wpAnyT_done {listed : Array Bool} {a : Act} {w : World} (hr : Region.ready md ops listed = []) (h : Q .normal a w) :
  ∀ fuel, wpAnyT P md ops Q S tail fuel listed a w
 | 0 => ⟨hr, h⟩
 | _ + 1 => ⟨fun _ => h, by rw [hr]; simp⟩
theorem wp_region_T (S : World → Prop) (tail : List Nat) {id : Nat} {a : Act} {w : World} (hm : P.follows .mixedOrders = true) (hS : S w.drew)
  (h : S w.drew → wpAnyT P .any ops Q S tail ops.size (Array.replicate ops.size false) a w.drew) : (Code.region id ops true).wp P Q a w :=
 wp_region_any hm (wpAny_of_T _ _ _ _ (h hS))
end
end Go.Proofs.YtggelmbnliajeaaGreatDoor
namespace Go.Proofs.YtggelmbnliajeaaGreatDoor
open Go.RowKit Go.Sort
set_option maxHeartbeats 800000 in
theorem Clone_any (w : World) {v : Value} {xs : List Int} (h : intsT.Rd w [v] xs) (hlen : xs.length ≤ 1000000) :
  Calls Tryz.prog 83 #[v] w (RetS intsT w xs) := by
 have hx := h
 obtain ⟨ad, cap, rfl⟩ := rd_slice h
 have HX := Lib.hid hx
 have hnil := fun w o m c => Lib.run_eql_slice_nil (P := Tryz.prog) w 42 2 o m c 0 0 Tryz.underlying42
 rcases Nat.eq_zero_or_pos xs.length with h0 | h0
 ·obtain rfl := List.eq_nil_of_length_eq_zero h0
  clear h hx h0 HX
  cases ad
  ·go_enter Tryz.func83, Tryz.ntmps83
   go_wp2_with fail
   go_ret
   exact ⟨_, rfl, fr_nil, Below.refl _ _⟩
  ·go_enter Tryz.func83, Tryz.ntmps83
   go_wp2_with fail
   go_ret
   exact ⟨_, rfl, fr_nil, bA⟩
 ·obtain ⟨_, _, e1, -, -, hc⟩ := ints_ex h
  simp only [List.cons.injEq, Value.slice.injEq, and_true, true_and] at e1
  obtain ⟨rfl, rfl⟩ := e1
  obtain ⟨b, o, rfl, -⟩ := hc h0
  clear h hx hc
  have HB := Lib.hid (Bl.lit0 (E := Ty.int) (e := 2) (base := w.heap.size) (w := w) (Nat.le_refl _))
  go_enter Tryz.func83, Tryz.ntmps83
  go_wp2_with (refine wpList_appI _ rfl _ _ 42 2 rfl elInt rfl HB.out rfl (HX.out.below bA) h0 (by simp; omega) (by decide) (by omega) (by simp) ?_; intro v1 w1 hB1 hg1 _)
  have HB1 := Lib.hid (hB1.fr (by unfold capMax; simp; omega))
  have hb1 : Below w.heap.size w w1 := (bA (w := w)).grown hg1 (by simp) (fun k hk => HB.out.own hk)
  clear hB1
  go_wp2_with fail
  go_ret
  exact ⟨_, rfl, HB1.out, hb1⟩
theorem set2_cells {w : World} {b : Nat} {x y u v : Value} (h0 : w.cell? ⟨b, 0, none⟩ = some u) (h1 : w.cell? ⟨b, 1, none⟩ = some v) :
  ((w.setCell ⟨b, 0, none⟩ x).setCell ⟨b, 1, none⟩ y).cell? ⟨b, 0, none⟩ = some x ∧ ((w.setCell ⟨b, 0, none⟩ x).setCell ⟨b, 1, none⟩ y).cell? ⟨b, 1, none⟩ = some y :=
 ⟨(World.cell?_setCell_other _ _ _ _ (by simp)).trans (World.cell?_setCell_same _ _ _ h0), World.cell?_setCell_same _ _ _ ((World.cell?_setCell_other _ _ _ _ (by simp)).trans h1)⟩
theorem fr_set2 {α : Type} {E : Ty α} {base : Nat} {w : World} {cs : List Value} {x : α} {b : Nat} {u v : Value} (h : E.Fr base w cs x) (ha : b < base) : E.Fr base ((w.setCell ⟨b, 0, none⟩ u).setCell ⟨b, 1, none⟩ v) cs x := (h.set (a := ⟨b, 0, none⟩) ha).set (a := ⟨b, 1, none⟩) ha
end Go.Proofs.YtggelmbnliajeaaGreatDoor
namespace Go.Proofs.YtggelmbnliajeaaGreatDoor
open Go.RowKit Go.Sort
def topI (xs : List Int) : Int := xs.foldl max 0
end Go.Proofs.YtggelmbnliajeaaGreatDoor
namespace Go.Proofs.YtggelmbnliajeaaGreatDoor
open Go.RowKit Go.Sort
abbrev Tpl := Int × List (Int × List (List Int))
/-- the truth values of a template's relations -/
def insF (t : Tpl) : List (List Bool) := t.2.map fun r => seenL t.1 (t.1 ^ r.1.toNat).toNat r.2
end Go.Proofs.YtggelmbnliajeaaGreatDoor
namespace Go.Proofs.YtggelmbnliajeaaGreatDoor
section
variable {s m k : Nat} {sure : List Int → Bool} {vals : List Int}
end
section
variable {go : List (List Int) → Bool} {told xs ys : List (List Int)} {x : List Int}
end
end Go.Proofs.YtggelmbnliajeaaGreatDoor
namespace Go.Proofs.YtggelmbnliajeaaGreatDoor
open Go.RowKit
/-- read in blocks for which something is so -/
def Ty.RdP {α : Type} (E : Ty α) (ok : Nat → Prop) (w : World) (cs : List Value) (x : α) : Prop := ∃ fp, E.rd w cs x fp ∧ ∀ k ∈ fp, ok k
section
variable {α : Type} {E : Ty α} {ok ok' : Nat → Prop} {w w' : World} {cs : List Value} {x : α}
theorem Ty.RdP.rd (h : E.RdP ok w cs x) : E.Rd w cs x := let ⟨fp, h, _⟩ := h; ⟨fp, h⟩
theorem Ty.RdP.mono (h : E.RdP ok w cs x) (hk : ∀ k, k < w.heap.size → ok k → ok' k) : E.RdP ok' w cs x := let ⟨fp, h, hf⟩ := h; ⟨fp, h, fun k hk' => hk k (E.lt h k hk') (hf k hk')⟩
theorem Ty.Rd.P (h : E.Rd w cs x) : E.RdP (fun k => k < w.heap.size) w cs x := let ⟨fp, h⟩ := h; ⟨fp, h, E.lt h⟩
theorem Ty.RdP.tch {O : List Nat} (h : E.RdP ok w cs x) (ht : TchF O w w') (hO : ∀ k, k < w.heap.size → ok k → k ∉ O) : E.RdP ok w' cs x :=
 let ⟨fp, h, hf⟩ := h; ⟨fp, E.same h (ht.same fun k hk => ⟨E.lt h k hk, hO k (E.lt h k hk) (hf k hk)⟩), hf⟩
theorem Ty.RdP.below (h : E.RdP ok w cs x) (hb : Below w.heap.size w w') : E.RdP ok w' cs x := h.tch (O := []) (Below.tchF hb []) (fun _ _ _ => List.not_mem_nil)
theorem Ty.rd.below {fp : List Nat} (h : E.rd w cs x fp) (hb : Below w.heap.size w w') : E.rd w' cs x fp := E.same h (Same.below hb (E.lt h))
theorem Ty.rd.tch {fp O : List Nat} (h : E.rd w cs x fp) (ht : TchF O w w') (hO : ∀ k ∈ fp, k ∉ O) : E.rd w' cs x fp := E.same h (ht.same fun k hk => ⟨E.lt h k hk, hO k hk⟩)
end
theorem TchF.then {O O' : List Nat} {a b c : World} (h : TchF O a b) (h' : TchF O' b c) (hO : ∀ k ∈ O', k ∈ O ∨ a.heap.size ≤ k) : TchF O a c :=
 ⟨h'.os.trans h.os, h'.tape.trans h.tape, h'.output.trans h.output, Nat.le_trans h.size h'.size, fun k hk hn => (h'.block k (Nat.lt_of_lt_of_le hk h.size) fun hm => by
  rcases hO k hm with hm | hm
  ·exact hn hm
  ·omega).trans (h.block k hk hn)⟩
theorem TchF.below {O : List Nat} {a b : World} {B : Nat} (h : TchF O a b) (hB : B ≤ a.heap.size) (hO : ∀ k ∈ O, B ≤ k) : Below B a b :=
 ⟨h.os, h.tape, h.output, h.size, fun k hk => h.block k (Nat.lt_of_lt_of_le hk hB) fun hm => Nat.not_lt.2 (hO k hm) hk⟩
abbrev duesT : Ty (List (List (Int × List Int))) := Ty.slice opsT
/-- a search's data, at block bs: the template, how many variables, the atoms that are due at each -/
def Sv (ok : Nat → Prop) (w : World) (bs : Nat) (t : Int × List (Int × List (List Int))) (vars : Int) (due : List (List (Int × List Int))) : Prop :=
 bs < w.heap.size ∧ ok bs ∧ ∃ v1 v3, w.cell? ⟨bs, 0, none⟩ = some (.int .i64 t.1) ∧ w.cell? ⟨bs, 1, none⟩ = some v1 ∧ w.cell? ⟨bs, 2, none⟩ = some (.int .i64 vars) ∧ w.cell? ⟨bs, 3, none⟩ = some v3 ∧ tplT.RdP ok w [.int .i64 t.1, v1] t ∧ duesT.RdP ok w [v3] due
section
variable {ok ok' : Nat → Prop} {w w' : World} {bs : Nat} {t : Int × List (Int × List (List Int))} {vars : Int} {due : List (List (Int × List Int))}
theorem Sv.tch {O : List Nat} (h : Sv ok w bs t vars due) (ht : TchF O w w') (hO : ∀ k, k < w.heap.size → ok k → k ∉ O) : Sv ok w' bs t vars due := by
 obtain ⟨h1, h2, v1, v3, c0, c1, c2, c3, h3, h4⟩ := h
 have hn := hO bs h1 h2
 exact ⟨Nat.lt_of_lt_of_le h1 ht.size, h2, v1, v3, (ht.cell h1 hn).trans c0, (ht.cell h1 hn).trans c1, (ht.cell h1 hn).trans c2, (ht.cell h1 hn).trans c3, h3.tch ht hO, h4.tch ht hO⟩
theorem Sv.below (h : Sv ok w bs t vars due) (hb : Below w.heap.size w w') : Sv ok w' bs t vars due := h.tch (O := []) (Below.tchF hb []) (fun _ _ _ => List.not_mem_nil)
theorem Sv.mono (h : Sv ok w bs t vars due) (hk : ∀ k, k < w.heap.size → ok k → ok' k) : Sv ok' w bs t vars due := by
 obtain ⟨h1, h2, v1, v3, c0, c1, c2, c3, h3, h4⟩ := h
 exact ⟨h1, hk _ h1 h2, v1, v3, c0, c1, c2, c3, h3.mono hk, h4.mono hk⟩
end
/-- a listener of lists of values: what it keeps (I), and the blocks that it may write (O) -/
structure Yl (P : Program) (g : FuncId) (caps : Array Value) (go : List (List Int) → Bool) (I : List (List Int) → List Nat → World → Prop) : Prop where
 stable : ∀ {told O w w'}, I told O w → Below w.heap.size w w' → I told O w'
 lt : ∀ {told O w}, I told O w → ∀ k ∈ O, k < w.heap.size
 step : ∀ {told O w0 w u x}, I told O w0 → Below w0.heap.size w0 w → intsT.Fr w0.heap.size w [u] x → x.length ≤ 10 → told.length ≤ 2000000 →
  Calls P g (#[u] ++ caps) w fun e w' => e = .returned (.bool (go (told ++ [x]))) ∧ ∃ O', I (told ++ [x]) O' w' ∧ TchF O w w' ∧ ∀ k ∈ O', k ∈ O ∨ w0.heap.size ≤ k
end Go.Proofs.YtggelmbnliajeaaGreatDoor
namespace Go.Proofs.YtggelmbnliajeaaGreatDoor
open Go.RowKit
theorem slice_exP {α : Type} {E : Ty α} {ok : Nat → Prop} {w : World} {cs : List Value} {xs : List α} (h : (Ty.slice E).RdP ok w cs xs) :
  ∃ ad cap, cs = [.slice ad xs.length cap] ∧ xs.length ≤ cap ∧ xs.length ≤ 140737488351232 ∧
   (0 < xs.length → ∃ b o, ad = some ⟨b, o, none⟩ ∧ b < w.heap.size ∧ ok b ∧ ∀ i (h : i < xs.length), ∃ cs, E.RdP ok w cs xs[i] ∧ ∀ j (hj : j < cs.length), w.cell? ⟨b, o + i * E.sz + j, none⟩ = some cs[j]) := by
 obtain ⟨fp, ⟨ad, cap, rfl, h1, h2, h3⟩, hok⟩ := h
 refine ⟨ad, cap, rfl, h1, h2, fun hp => ?_⟩
 rcases h3 with h3 | ⟨h3, b, o, fps, rfl, hb, rfl, h4⟩
 ·omega
 ·exact ⟨b, o, rfl, hb, hok b (List.mem_cons_self ..), fun i hi => let ⟨cs, h5, h6⟩ := h4 i hi; ⟨cs, ⟨_, h5, fun k hk => hok k (List.mem_cons_of_mem _ (List.mem_flatMap.2 ⟨i, by simpa using hi, hk⟩))⟩, h6⟩⟩
/-- from its elements -/
theorem slice_mkP {α : Type} {E : Ty α} {ok : Nat → Prop} {w : World} {ad : Option Addr} {n cap : Nat} {xs : List α} (hn : n = xs.length) (h1 : n ≤ cap) (h2 : n ≤ capMax)
  (h : 0 < n → ∃ b o, ad = some ⟨b, o, none⟩ ∧ b < w.heap.size ∧ ok b ∧ ∀ i (h : i < xs.length), ∃ cs, E.RdP ok w cs xs[i] ∧ ∀ j (hj : j < cs.length), w.cell? ⟨b, o + i * E.sz + j, none⟩ = some cs[j]) :
  (Ty.slice E).RdP ok w [.slice ad n cap] xs := by
 subst hn
 rcases Nat.eq_zero_or_pos xs.length with h0 | h0
 ·exact ⟨[], ⟨ad, cap, rfl, h1, h2, .inl ⟨h0, rfl⟩⟩, fun k hk => by cases hk⟩
 ·obtain ⟨b, o, rfl, hb, hok, he⟩ := h h0
  have key : ∀ i, ∃ cf : List Value × List Nat, ∀ (h : i < xs.length), E.rd w cf.1 xs[i] cf.2 ∧ (∀ k ∈ cf.2, ok k) ∧ ∀ j (hj : j < cf.1.length), w.cell? ⟨b, o + i * E.sz + j, none⟩ = some cf.1[j] := fun i => by
   by_cases hi : i < xs.length
   ·obtain ⟨cs, ⟨fp, h3, h4⟩, h5⟩ := he i hi
    exact ⟨(cs, fp), fun _ => ⟨h3, h4, h5⟩⟩
   ·exact ⟨([], []), fun h => absurd h hi⟩
  obtain ⟨F, hF⟩ := Classical.axiomOfChoice key
  refine ⟨b :: (List.range xs.length).flatMap fun i => (F i).2, ⟨_, cap, rfl, h1, h2, .inr ⟨h0, b, o, fun i => (F i).2, rfl, hb, rfl, fun i hi => ⟨(F i).1, (hF i hi).1, (hF i hi).2.2⟩⟩⟩, fun k hk => ?_⟩
  rcases List.mem_cons.1 hk with rfl | hk
  ·exact hok
  ·obtain ⟨i, hi, hk⟩ := List.mem_flatMap.1 hk
   exact (hF i (by simpa using hi)).2.1 k hk
/-- what a value of a row's cells reads as -/
def pvR (ok : Nat → Prop) (w : World) (z : (Int × List Int) × (Int × Value)) : Prop := z.2.1 = z.1.1 ∧ I64 z.1.1 ∧ intsT.RdP ok w [z.2.2] z.1.2
theorem pvR.below {ok : Nat → Prop} {w w' : World} {z : (Int × List Int) × (Int × Value)} (h : pvR ok w z) (hb : Below w.heap.size w w') : pvR ok w' z := ⟨h.1, h.2.1, h.2.2.below hb⟩
theorem pvR.mono {ok ok' : Nat → Prop} {w : World} {z : (Int × List Int) × (Int × Value)} (h : pvR ok w z) (hk : ∀ k, k < w.heap.size → ok k → ok' k) : pvR ok' w z := ⟨h.1, h.2.1, h.2.2.mono hk⟩
theorem Bl.ge {α : Type} {E : Ty α} {e base top : Nat} {w : World} {v : Value} {ys : List α} (h : Bl E e base top w v ys) {g : Nat} (hg : v.ownBlock = some g) : base ≤ g := by
 obtain ⟨L, fps, h1, _⟩ := h
 exact (h1.lt g hg).1
theorem Bl.lt_top {α : Type} {E : Ty α} {e base top : Nat} {w : World} {v : Value} {ys : List α} (h : Bl E e base top w v ys) {g : Nat} (hg : v.ownBlock = some g) : g < top := by
 obtain ⟨L, fps, _, _, _, _, h5, _⟩ := h
 exact h5 g hg
/-- a datum that does not lie in one block -/
def Ty.off {α : Type} (E : Ty α) (bx : Nat) : Ty α where
 sz := E.sz
 rd := fun w cs x fp => E.rd w cs x fp ∧ bx ∉ fp
 len := fun h => E.len h.1
 same := fun h hs => ⟨E.same h.1 hs, h.2⟩
 lt := fun h => E.lt h.1
 one := fun h => E.one h.1
theorem off_same {α : Type} {E : Ty α} {bx e base top : Nat} {w w' : World} {v : Value} {ys : List α} (h : Bl (E.off bx) e base top w v ys) (hv : v.ownBlock ≠ some bx) (hs : ∀ k, k ≠ bx → w'.heap[k]? = w.heap[k]?) : Bl (E.off bx) e base top w' v ys := by
 obtain ⟨L, fps, h1, h2, h3, h4, h5, h6⟩ := h
 have hne : ∀ b ∈ flat fps ys.length, b ≠ bx := by
  intro b hb he
  obtain ⟨i, hi, hb⟩ := List.mem_flatMap.1 hb
  obtain ⟨cs, h7, _⟩ := h2 i (by simpa using hi)
  rw [he] at hb
  exact h7.2 hb
 have hS : Same (flat fps ys.length) w w' := fun k hk => hs k (hne k hk)
 refine ⟨L, fps, ⟨h1.1, ?_⟩, fun i hi => ?_, h3, h4, h5, h6.same hS⟩
 ·rcases h1.2 with h | ⟨g, cap, cur, rfl, hg, hh, r⟩
  ·exact .inl h
  ·exact .inr ⟨g, cap, cur, rfl, hg, by rw [hs g (fun e => hv (by rw [e]; rfl))]; exact hh, r⟩
 ·obtain ⟨cs, h7, h8⟩ := h2 i hi
  exact ⟨cs, (E.off bx).same h7 (fun k hk => hS k (List.mem_flatMap.2 ⟨i, by simpa using hi, hk⟩)), h8⟩
theorem pv_same {e base top top' : Nat} {w w' : World} {v : Value} {ys : List (Int × Value)} (h : Bl pvT e base top w v ys) (hs : ∀ b, v.ownBlock = some b → w'.heap[b]? = w.heap[b]?) (ht : top ≤ top') : Bl pvT e base top' w' v ys := by
 obtain ⟨L, fps, h1, h2, h3, h4, h5, h6⟩ := h
 have hnil : ∀ b, b ∉ flat fps ys.length := by
  intro b hb
  obtain ⟨i, hi, hb⟩ := List.mem_flatMap.1 hb
  obtain ⟨cs, ⟨cs', _, _, _, _, hf⟩, _⟩ := h2 i (by simpa using hi)
  rw [hf] at hb
  cases hb
 refine ⟨L, fps, ⟨h1.1, ?_⟩, fun i hi => ?_, h3, fun b hb => absurd hb (hnil b), fun g hg => Nat.lt_of_lt_of_le (h5 g hg) ht, fun b hb => absurd hb (hnil b)⟩
 ·rcases h1.2 with h | ⟨g, cap, cur, rfl, hg, hh, r⟩
  ·exact .inl h
  ·exact .inr ⟨g, cap, cur, rfl, hg, by rw [hs g rfl]; exact hh, r⟩
 ·obtain ⟨cs, h7, h8⟩ := h2 i hi
  exact ⟨cs, h7, h8⟩
/-- a row of n rows at block g: its cells are us; each is a row of the call's own, from base on, and no two share a block -/
def DU (eA eR base top : Nat) (w : World) (g n : Nat) (us : Nat → Value) (Ls : Nat → List (Int × Value)) : Prop :=
 w.ownsRow g eR 1 (.slice (some ⟨g, 0, none⟩) n n) n ((List.range n).map us) ∧ g < base ∧ (∀ v, v < n → Bl pvT eA base top w (us v) (Ls v)) ∧ ∀ v, v < n → ∀ b, (us v).ownBlock = some b → ∀ v', v' < n → v' ≠ v → (us v').ownBlock ≠ some b
section
variable {eA eR base top g n : Nat} {w w' : World} {us : Nat → Value} {Ls : Nat → List (Int × Value)}
theorem owns_same {b e sz : Nat} {g n cap : Nat} {xs : List Value} (h : w.ownsRow b e sz (.slice (some ⟨g, 0, none⟩) n cap) n xs) (hs : w'.heap[g]? = w.heap[g]?) : w'.ownsRow b e sz (.slice (some ⟨g, 0, none⟩) n cap) n xs := by
 refine ⟨h.1, ?_⟩
 rcases h.2 with h | ⟨g', cap, cur, hg', hg, hh, r⟩
 ·exact .inl h
 ·simp only [Value.slice.injEq, Option.some.injEq, Addr.mk.injEq, and_true, true_and] at hg'
  obtain ⟨rfl, rfl⟩ := hg'
  exact .inr ⟨g, _, cur, rfl, hg, by rw [hs]; exact hh, r⟩
theorem DU.lt (h : DU eA eR base top w g n us Ls) : g < w.heap.size := (h.1.lt g rfl).2
theorem DU.cell (h : DU eA eR base top w g n us Ls) {j : Nat} (hj : j < n) : w.cell? ⟨g, j, none⟩ = some (us j) := by
 rw [World.ownsRow.cellAt h.1 j (by omega)]
 simp [hj]
theorem DU.free (h : DU eA eR base top w g n us Ls) (j : Nat) : w.frozen? ⟨g, j, none⟩ = false := World.ownsRow.frozenAt h.1 j
theorem DU.below {B : Nat} (h : DU eA eR base top w g n us Ls) (hb : Below B w w') (ht : top ≤ B) (hB : base ≤ B) : DU eA eR base top w' g n us Ls :=
 ⟨owns_same h.1 (hb.block g (by have := h.2.1; omega)), h.2.1, fun v hv => (h.2.2.1 v hv).below hb ht, h.2.2.2⟩
theorem DU.mono {top' : Nat} (h : DU eA eR base top w g n us Ls) (ht : top ≤ top') : DU eA eR base top' w g n us Ls := ⟨h.1, h.2.1, fun v hv => (h.2.2.1 v hv).mono ht, h.2.2.2⟩
end
end Go.Proofs.YtggelmbnliajeaaGreatDoor
namespace Go.Proofs.YtggelmbnliajeaaGreatDoor
open Go.RowKit
/-- only blocks of which O holds are written, and new ones -/
structure TchP (O : Nat → Prop) (w w' : World) : Prop where
 os : w'.os = w.os
 tape : w'.tape = w.tape
 output : w'.output = w.output
 size : w.heap.size ≤ w'.heap.size
 block : ∀ k, k < w.heap.size → ¬ O k → w'.heap[k]? = w.heap[k]?
section
variable {O O' : Nat → Prop} {w w' w'' : World}
theorem TchP.refl (O : Nat → Prop) (w : World) : TchP O w w := ⟨rfl, rfl, rfl, Nat.le_refl _, fun _ _ _ => rfl⟩
theorem TchP.of_below (h : Below w.heap.size w w') (O : Nat → Prop) : TchP O w w' := ⟨h.os, h.tape, h.output, h.size, fun k hk _ => h.block k hk⟩
theorem TchP.then (h : TchP O w w') (h' : TchP O' w' w'') (hO : ∀ k, k < w.heap.size → O' k → O k) : TchP O w w'' :=
 ⟨h'.os.trans h.os, h'.tape.trans h.tape, h'.output.trans h.output, Nat.le_trans h.size h'.size, fun k hk hn => (h'.block k (Nat.lt_of_lt_of_le hk h.size) fun hm => hn (hO k hk hm)).trans (h.block k hk hn)⟩
theorem TchP.mono (h : TchP O w w') (hO : ∀ k, k < w.heap.size → O k → O' k) : TchP O' w w' := ⟨h.os, h.tape, h.output, h.size, fun k hk hn => h.block k hk fun hm => hn (hO k hk hm)⟩
theorem TchP.below {B : Nat} (h : TchP O w w') (hB : B ≤ w.heap.size) (hO : ∀ k, k < B → ¬ O k) : Below B w w' := ⟨h.os, h.tape, h.output, h.size, fun k hk => h.block k (Nat.lt_of_lt_of_le hk hB) (hO k hk)⟩
theorem TchP.cell (h : TchP O w w') {b i : Nat} (hb : b < w.heap.size) (hn : ¬ O b) : w'.cell? ⟨b, i, none⟩ = w.cell? ⟨b, i, none⟩ := World.cell?_of_block (a := ⟨b, i, none⟩) (h.block b hb hn)
theorem TchP.frozen (h : TchP O w w') {b i : Nat} (hb : b < w.heap.size) (hn : ¬ O b) : w'.frozen? ⟨b, i, none⟩ = w.frozen? ⟨b, i, none⟩ := World.frozen?_of_block (a := ⟨b, i, none⟩) (h.block b hb hn)
theorem TchP.set {b i : Nat} {v : Value} (hO : O b) : TchP O w (w.setCell ⟨b, i, none⟩ v) := ⟨rfl, rfl, rfl, by simp [World.setCell], fun k _ hn => Below.heap_setCell _ _ _ _ fun e => hn (by simp at e; rw [e]; exact hO)⟩
theorem TchP.grown {row : Option Nat} (h : w.grownBy w' row) (hO : ∀ k, row = some k → O k) : TchP O w w' := ⟨h.os, h.tape, h.output, h.size, fun k hk hn => h.block k hk fun e => hn (hO k e.symm)⟩
theorem Ty.RdP.tchP {α : Type} {E : Ty α} {ok : Nat → Prop} {cs : List Value} {x : α} (h : E.RdP ok w cs x) (ht : TchP O w w') (hO : ∀ k, k < w.heap.size → ok k → ¬ O k) : E.RdP ok w' cs x :=
 let ⟨fp, h, hf⟩ := h; ⟨fp, E.same h (fun k hk => ht.block k (E.lt h k hk) (hO k (E.lt h k hk) (hf k hk))), hf⟩
theorem pvR.tchP {ok : Nat → Prop} {z : (Int × List Int) × (Int × Value)} (h : pvR ok w z) (ht : TchP O w w') (hO : ∀ k, k < w.heap.size → ok k → ¬ O k) : pvR ok w' z := ⟨h.1, h.2.1, h.2.2.tchP ht hO⟩
end
/-- a datum that lies in blocks of which O holds -/
def Ty.on {α : Type} (E : Ty α) (O : Nat → Prop) : Ty α where
 sz := E.sz
 rd := fun w cs x fp => E.rd w cs x fp ∧ ∀ k ∈ fp, O k
 len := fun h => E.len h.1
 same := fun h hs => ⟨E.same h.1 hs, h.2⟩
 lt := fun h => E.lt h.1
 one := fun h => E.one h.1
section
variable {α : Type} {E : Ty α} {O O' : Nat → Prop} {e base top : Nat} {w w' : World} {v : Value} {ys : List α}
theorem on_same (h : Bl (E.on O) e base top w v ys) (hv : ∀ g, v.ownBlock = some g → O g) (hs : ∀ k, k < w.heap.size → O k → w'.heap[k]? = w.heap[k]?) : Bl (E.on O) e base top w' v ys := by
 obtain ⟨L, fps, h1, h2, h3, h4, h5, h6⟩ := h
 have hS : Same (flat fps ys.length) w w' := fun k hk => by
  obtain ⟨i, hi, hk⟩ := List.mem_flatMap.1 hk
  obtain ⟨cs, h7, _⟩ := h2 i (by simpa using hi)
  exact hs k (E.lt h7.1 k hk) (h7.2 k hk)
 refine ⟨L, fps, ⟨h1.1, ?_⟩, fun i hi => ?_, h3, h4, h5, h6.same hS⟩
 ·rcases h1.2 with h | ⟨g, cap, cur, rfl, hg, hh, r⟩
  ·exact .inl h
  ·exact .inr ⟨g, cap, cur, rfl, hg, by rw [hs g (lt_of_block hh) (hv g rfl)]; exact hh, r⟩
 ·obtain ⟨cs, h7, h8⟩ := h2 i hi
  exact ⟨cs, (E.on O).same h7 (fun k hk => hS k (List.mem_flatMap.2 ⟨i, by simpa using hi, hk⟩)), h8⟩
/-- a row of numbers: all that it hangs on is its own block -/
theorem bl_int_same {top' : Nat} {ys : List Int} (h : Bl Ty.int e base top w v ys) (hs : ∀ b, v.ownBlock = some b → w'.heap[b]? = w.heap[b]?) (ht : top ≤ top') : Bl Ty.int e base top' w' v ys := by
 obtain ⟨L, fps, h1, h2, h3, h4, h5, h6⟩ := h
 have hnil : ∀ b, b ∉ flat fps ys.length := by
  intro b hb
  obtain ⟨i, hi, hb⟩ := List.mem_flatMap.1 hb
  obtain ⟨cs, ⟨_, _, hf⟩, _⟩ := h2 i (by simpa using hi)
  rw [hf] at hb
  cases hb
 refine ⟨L, fps, ⟨h1.1, ?_⟩, fun i hi => ?_, h3, fun b hb => absurd hb (hnil b), fun g hg => Nat.lt_of_lt_of_le (h5 g hg) ht, fun b hb => absurd hb (hnil b)⟩
 ·rcases h1.2 with h | ⟨g, cap, cur, rfl, hg, hh, r⟩
  ·exact .inl h
  ·exact .inr ⟨g, cap, cur, rfl, hg, by rw [hs g rfl]; exact hh, r⟩
 ·obtain ⟨cs, h7, h8⟩ := h2 i hi
  exact ⟨cs, h7, h8⟩
/-- a row of values as they are -/
theorem bl_val_same {top' : Nat} {ys : List Value} (h : Bl Ty.val e base top w v ys) (hs : ∀ b, v.ownBlock = some b → w'.heap[b]? = w.heap[b]?) (ht : top ≤ top') : Bl Ty.val e base top' w' v ys := by
 obtain ⟨L, fps, h1, h2, h3, h4, h5, h6⟩ := h
 have hnil : ∀ b, b ∉ flat fps ys.length := by
  intro b hb
  obtain ⟨i, hi, hb⟩ := List.mem_flatMap.1 hb
  obtain ⟨cs, ⟨_, _, hf⟩, _⟩ := h2 i (by simpa using hi)
  rw [hf] at hb
  cases hb
 refine ⟨L, fps, ⟨h1.1, ?_⟩, fun i hi => ?_, h3, fun b hb => absurd hb (hnil b), fun g hg => Nat.lt_of_lt_of_le (h5 g hg) ht, fun b hb => absurd hb (hnil b)⟩
 ·rcases h1.2 with h | ⟨g, cap, cur, rfl, hg, hh, r⟩
  ·exact .inl h
  ·exact .inr ⟨g, cap, cur, rfl, hg, by rw [hs g rfl]; exact hh, r⟩
 ·obtain ⟨cs, h7, h8⟩ := h2 i hi
  exact ⟨cs, h7, h8⟩
end
abbrev boolsT : Ty (List Bool) := Ty.slice Ty.bool
/-- a row of values as they are, each of which reads as a datum of one cell -/
theorem rows_ofP {α : Type} {E : Ty α} {ok : Nat → Prop} {w : World} {v : Value} {vs : List Value} {ts : List α} (hE : E.sz = 1) (h : (Ty.slice Ty.val).RdP ok w [v] vs) (hl : vs.length = ts.length) (hr : ∀ i (h : i < vs.length) (h' : i < ts.length), E.RdP ok w [vs[i]] ts[i]) : (Ty.slice E).RdP ok w [v] ts := by
 obtain ⟨ad, cap, hv, h1, h2, h3⟩ := slice_exP h
 obtain rfl : v = _ := by simpa using hv
 refine slice_mkP hl h1 h2 fun h0 => ?_
 obtain ⟨b, o, rfl, hb, hok, he⟩ := h3 h0
 refine ⟨b, o, rfl, hb, hok, fun i hi => ?_⟩
 obtain ⟨cs, ⟨fp, ⟨rfl, _, _⟩, hf⟩, h6⟩ := he i (by omega)
 refine ⟨_, hr i (by omega) hi, fun j hj => ?_⟩
 have h7 := h6 j hj
 rw [hE]
 exact h7
theorem bl_val_rdP {e base top : Nat} {w : World} {v : Value} {vs : List Value} {ok : Nat → Prop} (h : Bl Ty.val e base top w v vs) (hl : vs.length ≤ capMax) (hv : ∀ g, v.ownBlock = some g → ok g) : (Ty.slice Ty.val).RdP ok w [v] vs := by
 obtain ⟨fp, h1, -, -, -⟩ := h.fr hl
 refine ⟨fp, h1, fun k hk => ?_⟩
 obtain ⟨ad, cap, hv', -, -, h3⟩ := h1
 obtain rfl : v = _ := by simpa using hv'
 rcases h3 with ⟨_, rfl⟩ | ⟨_, b, o, fps, rfl, _, rfl, h4⟩
 ·cases hk
 ·rcases List.mem_cons.1 hk with rfl | hk
  ·exact hv _ rfl
  ·obtain ⟨i, hi, hk⟩ := List.mem_flatMap.1 hk
   obtain ⟨cs, ⟨_, _, hf⟩, _⟩ := h4 i (by simpa using hi)
   rw [hf] at hk
   cases hk
/-- a pointer to a box whose third cell is a row of truth values -/
def Ty.setp : Ty (List Bool) where
 sz := 1
 rd := fun w cs L fp => ∃ bx v fp', cs = [.pointer (some ⟨bx, 0, none⟩)] ∧ bx < w.heap.size ∧ w.cell? ⟨bx, 2, none⟩ = some v ∧ boolsT.rd w [v] L fp' ∧ fp = bx :: fp'
 len := by rintro _ _ _ _ ⟨_, _, _, rfl, _⟩; rfl
 same := by
  rintro w w' _ L _ ⟨bx, v, fp', rfl, h1, h2, h3, rfl⟩ hs
  have hb := hs bx (List.mem_cons_self ..)
  refine ⟨bx, v, fp', rfl, ?_, (World.cell?_of_block (a := ⟨bx, 2, none⟩) hb).trans h2, boolsT.same h3 (fun k hk => hs k (List.mem_cons_of_mem _ hk)), rfl⟩
  rcases Nat.lt_or_ge bx w'.heap.size with h' | h'
  ·exact h'
  ·rw [Array.getElem?_eq_none h', Array.getElem?_eq_getElem h1] at hb
   cases hb
 lt := by
  rintro w _ L _ ⟨bx, v, fp', rfl, h1, h2, h3, rfl⟩ k hk
  rcases List.mem_cons.1 hk with rfl | hk
  ·exact h1
  ·exact boolsT.lt h3 k hk
 one := by rintro _ _ _ _ ⟨_, _, _, rfl, _⟩ u hu; simp at hu; subst hu; rfl
end Go.Proofs.YtggelmbnliajeaaGreatDoor
namespace Go.Proofs.YtggelmbnliajeaaGreatDoor
open Go.RowKit Go.Sort
/-- what a finder only reads: at block bs -/
def Fd (ok : Nat → Prop) (w : World) (bs : Nat) (t : Tpl) (ar : Int) (due : List (List (Int × List Int))) (fx : List Int) : Prop :=
 bs < w.heap.size ∧ ∃ v3 v4 v5, w.cell? ⟨bs, 0, none⟩ = some (.int .i64 t.1) ∧ w.cell? ⟨bs, 2, none⟩ = some (.int .i64 ar) ∧ w.cell? ⟨bs, 3, none⟩ = some v3 ∧ w.cell? ⟨bs, 4, none⟩ = some v4 ∧ w.cell? ⟨bs, 5, none⟩ = some v5 ∧
  duesT.RdP ok w [v3] due ∧ (Ty.slice boolsT).RdP ok w [v4] (insF t) ∧ intsT.RdP ok w [v5] fx
section
variable {ok ok' : Nat → Prop} {w w' : World} {bs : Nat} {t : Tpl} {ar : Int} {due : List (List (Int × List Int))} {fx : List Int}
theorem Fd.below (h : Fd ok w bs t ar due fx) (hb : Below w.heap.size w w') : Fd ok w' bs t ar due fx := by
 obtain ⟨h1, v3, v4, v5, c0, c2, c3, c4, c5, h3, h4, h5⟩ := h
 exact ⟨Nat.lt_of_lt_of_le h1 hb.size, v3, v4, v5, (hb.cell (p := ⟨bs, 0, none⟩) h1).trans c0, (hb.cell (p := ⟨bs, 2, none⟩) h1).trans c2, (hb.cell (p := ⟨bs, 3, none⟩) h1).trans c3, (hb.cell (p := ⟨bs, 4, none⟩) h1).trans c4, (hb.cell (p := ⟨bs, 5, none⟩) h1).trans c5, h3.below hb, h4.below hb, h5.below hb⟩
/-- its own last two cells and other blocks may be written -/
theorem Fd.tchP {O : Nat → Prop} (h : Fd ok w bs t ar due fx) (ht : TchP O w w') (hO : ∀ k, k < w.heap.size → ok k → ¬ O k) (hb : ¬ O bs) : Fd ok w' bs t ar due fx := by
 obtain ⟨h1, v3, v4, v5, c0, c2, c3, c4, c5, h3, h4, h5⟩ := h
 exact ⟨Nat.lt_of_lt_of_le h1 ht.size, v3, v4, v5, (ht.cell h1 hb).trans c0, (ht.cell h1 hb).trans c2, (ht.cell h1 hb).trans c3, (ht.cell h1 hb).trans c4, (ht.cell h1 hb).trans c5, h3.tchP ht hO, h4.tchP ht hO, h5.tchP ht hO⟩
theorem Fd.set {i : Nat} {u : Value} (h : Fd ok w bs t ar due fx) (hi : 6 ≤ i) (hO : ¬ ok bs) : Fd ok (w.setCell ⟨bs, i, none⟩ u) bs t ar due fx := by
 obtain ⟨h1, v3, v4, v5, c0, c2, c3, c4, c5, h3, h4, h5⟩ := h
 have hs : TchP (fun k => k = bs) w (w.setCell ⟨bs, i, none⟩ u) := TchP.set rfl
 have hk : ∀ k, k < w.heap.size → ok k → ¬ (k = bs) := fun k _ hk e => hO (e ▸ hk)
 have hc : ∀ j, j < 6 → (w.setCell ⟨bs, i, none⟩ u).cell? ⟨bs, j, none⟩ = w.cell? ⟨bs, j, none⟩ := fun j hj => World.cell?_setCell_other _ _ _ _ (by first | (simp; done) | (simp; omega))
 exact ⟨by simpa [World.setCell] using h1, v3, v4, v5, (hc 0 (by omega)).trans c0, (hc 2 (by omega)).trans c2, (hc 3 (by omega)).trans c3, (hc 4 (by omega)).trans c4, (hc 5 (by omega)).trans c5, h3.tchP hs hk, h4.tchP hs hk, h5.tchP hs hk⟩
theorem Fd.mono (h : Fd ok w bs t ar due fx) (hk : ∀ k, k < w.heap.size → ok k → ok' k) : Fd ok' w bs t ar due fx := by
 obtain ⟨h1, v3, v4, v5, c0, c2, c3, c4, c5, h3, h4, h5⟩ := h
 exact ⟨h1, v3, v4, v5, c0, c2, c3, c4, c5, h3.mono hk, h4.mono hk, h5.mono hk⟩
end
end Go.Proofs.YtggelmbnliajeaaGreatDoor
namespace Go.Proofs.YtggelmbnliajeaaGreatDoor
open Go.RowKit Go.Sort
/-- what a search turns: how many steps, the values so far, in a row of its own -/
def Tb (e base : Nat) (w : World) (bs st : Nat) (v : Value) (vals : List Int) : Prop :=
 w.cell? ⟨bs, 6, none⟩ = some (.int .i64 (st : Int)) ∧ w.cell? ⟨bs, 7, none⟩ = some v ∧ w.frozen? ⟨bs, 6, none⟩ = false ∧ w.frozen? ⟨bs, 7, none⟩ = false ∧ Bl Ty.int e base w.heap.size w v vals
theorem Tb.same {e base : Nat} {w w' : World} {bs st : Nat} {v : Value} {vals : List Int} (h : Tb e base w bs st v vals) (hb : w'.heap[bs]? = w.heap[bs]?) (hs : ∀ b, v.ownBlock = some b → w'.heap[b]? = w.heap[b]?) (hz : w.heap.size ≤ w'.heap.size) : Tb e base w' bs st v vals :=
 let ⟨h1, h2, h3, h4, h5⟩ := h
 ⟨(World.cell?_of_block (a := ⟨bs, 6, none⟩) hb).trans h1, (World.cell?_of_block (a := ⟨bs, 7, none⟩) hb).trans h2, (World.frozen?_of_block (a := ⟨bs, 6, none⟩) hb).trans h3, (World.frozen?_of_block (a := ⟨bs, 7, none⟩) hb).trans h4, bl_int_same h5 hs hz⟩
theorem Tb.below {e base : Nat} {w w' : World} {bs st : Nat} {v : Value} {vals : List Int} (h : Tb e base w bs st v vals) (hl : bs < w.heap.size) (hb : Below w.heap.size w w') : Tb e base w' bs st v vals :=
 h.same (hb.block bs hl) (fun _ hq => hb.block _ (h.2.2.2.2.lt_top hq)) hb.size
/-- a listener of operations: what it keeps (I), and the blocks that are its own (O) -/
structure Yf (P : Program) (ar : Int) (g : FuncId) (caps : Array Value) (yc : List (List Int) → Int) (I : List (List Int) → (Nat → Prop) → World → Prop) : Prop where
 stable : ∀ {told O w w'}, I told O w → (∀ k, k < w.heap.size → O k → w'.heap[k]? = w.heap[k]?) → w.heap.size ≤ w'.heap.size → I told O w'
 lt : ∀ {told O w}, I told O w → ∀ k, O k → k < w.heap.size
 step : ∀ {told O w0 w u x}, I told O w0 → Below w0.heap.size w0 w → intsT.Fr w0.heap.size w [u] x → x.length ≤ 64 → told.length ≤ 2000000 →
  Calls P g (#[.agg #[.int .i64 ar, u]] ++ caps) w fun e w' => e = .returned (.int .i64 (yc (told ++ [x]))) ∧ ∃ O', I (told ++ [x]) O' w' ∧ TchP O w w' ∧ ∀ k, O' k → O k ∨ w0.heap.size ≤ k
/-- how a search leaves memory -/
def SrR (e base : Nat) (ok : Nat → Prop) (bs : Nat) (t : Tpl) (ar : Int) (due : List (List (Int × List Int))) (fx : List Int) (I : List (List Int) → (Nat → Prop) → World → Prop) (w : World) (v : Value) (O : Nat → Prop) (vals : List Int) (R : FR) (w' : World) : Prop :=
 ∃ v' O', Fd ok w' bs t ar due fx ∧ Tb e base w' bs R.2.1 v' vals ∧ I R.2.2 O' w' ∧ (∀ k, O' k → O k ∨ w.heap.size ≤ k) ∧ (∀ k, v'.ownBlock = some k → ¬ O' k ∧ (v.ownBlock = some k ∨ w.heap.size ≤ k)) ∧ TchP (fun k => O k ∨ k = bs ∨ v.ownBlock = some k) w w'
theorem SrR.mk {e base : Nat} {ok : Nat → Prop} {bs : Nat} {t : Tpl} {ar : Int} {due : List (List (Int × List Int))} {fx : List Int} {I : List (List Int) → (Nat → Prop) → World → Prop} {w : World} {v : Value} {O : Nat → Prop} {vals : List Int} {R : FR} {w' : World} (v' : Value) (O' : Nat → Prop)
  (h1 : Fd ok w' bs t ar due fx) (h2 : Tb e base w' bs R.2.1 v' vals) (h3 : I R.2.2 O' w') (h4 : ∀ k, O' k → O k ∨ w.heap.size ≤ k) (h5 : ∀ k, v'.ownBlock = some k → ¬ O' k ∧ (v.ownBlock = some k ∨ w.heap.size ≤ k)) (h6 : TchP (fun k => O k ∨ k = bs ∨ v.ownBlock = some k) w w') : SrR e base ok bs t ar due fx I w v O vals R w' :=
 ⟨v', O', h1, h2, h3, h4, h5, h6⟩
end Go.Proofs.YtggelmbnliajeaaGreatDoor
namespace Go.Proofs.YtggelmbnliajeaaGreatDoor
open Go.RowKit Go.Sort
end Go.Proofs.YtggelmbnliajeaaGreatDoor
namespace Go.Proofs.YtggelmbnliajeaaGreatDoor
open Go.RowKit Go.Sort
abbrev ZP := (Int × List Int) × (Int × Value)
def zF (Z : List ZP) (v : Nat) : List ZP := Z.filter fun z => topI z.1.2 == (v : Int)
/-- blocks of what is finished -/
def okN (base N : Nat) (us : Nat → Value) (vin : Value) (k : Nat) : Prop := base ≤ k ∧ (∀ v, v < N → (us v).ownBlock ≠ some k) ∧ vin.ownBlock ≠ some k
structure FinS (B : Ty (List Bool)) (eL eR eB base N : Nat) (w : World) (g : Nat) (us : Nat → Value) (vin : Value) (Z : List ZP) (vs : List Value) (ins : List (List Bool)) : Prop where
 du : DU eL eR base w.heap.size w g N us (fun v => (zF Z v).map (·.2))
 zs : ∀ z ∈ Z, pvR (okN base N us vin) w z
 vi : Bl Ty.val eB base w.heap.size w vin vs
 bl : vs.length = ins.length
 br : ∀ i (h : i < vs.length) (h' : i < ins.length), B.RdP (okN base N us vin) w [vs[i]] ins[i]
 vu : ∀ v, v < N → ∀ k, (us v).ownBlock = some k → vin.ownBlock ≠ some k
section
variable {B : Ty (List Bool)} {eL eR eB base N g : Nat} {w w' : World} {us : Nat → Value} {vin : Value} {Z : List ZP} {vs : List Value} {ins : List (List Bool)}
theorem FinS.lt (h : FinS B eL eR eB base N w g us vin Z vs ins) : g < w.heap.size := h.du.lt
theorem FinS.below (h : FinS B eL eR eB base N w g us vin Z vs ins) (hB : base ≤ w.heap.size) (hb : Below w.heap.size w w') : FinS B eL eR eB base N w' g us vin Z vs ins :=
 ⟨(h.du.below hb (Nat.le_refl _) hB).mono hb.size, fun z hz => (h.zs z hz).below hb, (h.vi.below hb (Nat.le_refl _)).mono hb.size, h.bl, fun i h1 h2 => (h.br i h1 h2).below hb, h.vu⟩
/-- a cell of an older block -/
theorem FinS.set {b i : Nat} {u : Value} (h : FinS B eL eR eB base N w g us vin Z vs ins) (hb : b < base) (hg : b ≠ g) : FinS B eL eR eB base N (w.setCell ⟨b, i, none⟩ u) g us vin Z vs ins := by
 have ht : TchP (fun k => k = b) w (w.setCell ⟨b, i, none⟩ u) := TchP.set rfl
 have hk : ∀ k, k < w.heap.size → okN base N us vin k → ¬ (k = b) := fun k _ hk e => by have := hk.1; omega
 have hz : (w.setCell ⟨b, i, none⟩ u).heap.size = w.heap.size := by simp [World.setCell]
 have hh : ∀ k, k ≠ b → (w.setCell ⟨b, i, none⟩ u).heap[k]? = w.heap[k]? := fun k hk => Below.heap_setCell _ _ _ _ hk
 refine ⟨?_, fun z hz => (h.zs z hz).tchP ht hk, bl_val_same h.vi (fun q hq => hh q (by have := h.vi.ge hq; omega)) (by rw [hz]; exact Nat.le_refl _), h.bl, fun j h1 h2 => (h.br j h1 h2).tchP ht hk, h.vu⟩
 obtain ⟨d1, d2, d3, d4⟩ := h.du
 refine ⟨owns_same d1 (hh g (Ne.symm hg)), d2, fun v hv => ?_, d4⟩
 exact pv_same (d3 v hv) (fun q hq => hh q (by have := (d3 v hv).ge hq; omega)) (by rw [hz]; exact Nat.le_refl _)
theorem FinS.sets (h : FinS B eL eR eB base N w g us vin Z vs ins) (hB : B.sz = 1) (hn : vs.length ≤ 1000) : (Ty.slice B).RdP (fun k => k = g ∨ base ≤ k) w [vin] ins :=
 rows_ofP hB (bl_val_rdP h.vi (by unfold capMax; omega) (fun q hq => .inr (h.vi.ge hq))) h.bl (fun i h1 h2 => (h.br i h1 h2).mono (fun k _ hk => .inr hk.1))
end
end Go.Proofs.YtggelmbnliajeaaGreatDoor
namespace Go.Proofs.YtggelmbnliajeaaGreatDoor
open Go.RowKit
section
variable {P : Program} {ops : Array Oper} {Q : Exit → Act → World → Prop} {md : Region.Mode} {S : World → Prop} {tail : List Nat}
end
end Go.Proofs.YtggelmbnliajeaaGreatDoor
namespace Go.Proofs.YtggelmbnliajeaaGreatDoor
open Go.RowKit Go.Sort
end Go.Proofs.YtggelmbnliajeaaGreatDoor
namespace Go.Proofs.YtggelmbnliajeaaGreatDoor
open Go.RowKit Go.Sort
/-- what the reference's search only reads: at block br -/
def Ru (ok : Nat → Prop) (w : World) (br : Nat) (t : Tpl) (ar : Int) (due : List (List (Int × List Int))) (fx : List Int) : Prop :=
 br < w.heap.size ∧ ∃ tb tw v2 v3 v4, w.cell? ⟨br, 0, none⟩ = some (.pointer (some ⟨tb, tw, none⟩)) ∧ tb < w.heap.size ∧ ok tb ∧ w.cell? ⟨tb, tw, none⟩ = some (.int .i64 t.1) ∧ w.cell? ⟨br, 1, none⟩ = some (.int .i64 ar) ∧ w.cell? ⟨br, 2, none⟩ = some v2 ∧ w.cell? ⟨br, 3, none⟩ = some v3 ∧ w.cell? ⟨br, 4, none⟩ = some v4 ∧
  (Ty.slice Ty.setp).RdP ok w [v2] (insF t) ∧ duesT.RdP ok w [v3] due ∧ intsT.RdP ok w [v4] fx
section
variable {ok ok' : Nat → Prop} {w w' : World} {br : Nat} {t : Tpl} {ar : Int} {due : List (List (Int × List Int))} {fx : List Int}
theorem Ru.below (h : Ru ok w br t ar due fx) (hb : Below w.heap.size w w') : Ru ok w' br t ar due fx := by
 obtain ⟨h1, tb, tw, v2, v3, v4, c0, ht, hk, ct, c1, c2, c3, c4, h3, h4, h5⟩ := h
 exact ⟨Nat.lt_of_lt_of_le h1 hb.size, tb, tw, v2, v3, v4, (hb.cell (p := ⟨br, 0, none⟩) h1).trans c0, Nat.lt_of_lt_of_le ht hb.size, hk, (hb.cell (p := ⟨tb, tw, none⟩) ht).trans ct, (hb.cell (p := ⟨br, 1, none⟩) h1).trans c1, (hb.cell (p := ⟨br, 2, none⟩) h1).trans c2, (hb.cell (p := ⟨br, 3, none⟩) h1).trans c3, (hb.cell (p := ⟨br, 4, none⟩) h1).trans c4, h3.below hb, h4.below hb, h5.below hb⟩
theorem Ru.tchP {O : Nat → Prop} (h : Ru ok w br t ar due fx) (ht : TchP O w w') (hO : ∀ k, k < w.heap.size → ok k → ¬ O k) (hb : ¬ O br) : Ru ok w' br t ar due fx := by
 obtain ⟨h1, tb, tw, v2, v3, v4, c0, htb, hk, ct, c1, c2, c3, c4, h3, h4, h5⟩ := h
 exact ⟨Nat.lt_of_lt_of_le h1 ht.size, tb, tw, v2, v3, v4, (ht.cell h1 hb).trans c0, Nat.lt_of_lt_of_le htb ht.size, hk, (ht.cell htb (hO tb htb hk)).trans ct, (ht.cell h1 hb).trans c1, (ht.cell h1 hb).trans c2, (ht.cell h1 hb).trans c3, (ht.cell h1 hb).trans c4, h3.tchP ht hO, h4.tchP ht hO, h5.tchP ht hO⟩
theorem Ru.set {i : Nat} {u : Value} (h : Ru ok w br t ar due fx) (hi : 5 ≤ i) (hO : ¬ ok br) : Ru ok (w.setCell ⟨br, i, none⟩ u) br t ar due fx := by
 obtain ⟨h1, tb, tw, v2, v3, v4, c0, htb, hk, ct, c1, c2, c3, c4, h3, h4, h5⟩ := h
 have hs : TchP (fun k => k = br) w (w.setCell ⟨br, i, none⟩ u) := TchP.set rfl
 have hkk : ∀ k, k < w.heap.size → ok k → ¬ (k = br) := fun k _ hk e => hO (e ▸ hk)
 have hc : ∀ j, j < 5 → (w.setCell ⟨br, i, none⟩ u).cell? ⟨br, j, none⟩ = w.cell? ⟨br, j, none⟩ := fun j hj => World.cell?_setCell_other _ _ _ _ (by first | (simp; done) | (simp; omega))
 exact ⟨by simpa [World.setCell] using h1, tb, tw, v2, v3, v4, (hc 0 (by omega)).trans c0, by simpa [World.setCell] using htb, hk, (hs.cell htb (hkk tb htb hk)).trans ct, (hc 1 (by omega)).trans c1, (hc 2 (by omega)).trans c2, (hc 3 (by omega)).trans c3, (hc 4 (by omega)).trans c4, h3.tchP hs hkk, h4.tchP hs hkk, h5.tchP hs hkk⟩
end
end Go.Proofs.YtggelmbnliajeaaGreatDoor
namespace Go.Proofs.YtggelmbnliajeaaGreatDoor
open Go.RowKit Go.Sort
section
variable {N : Nat} {pre : List Int} {cur v : Int}
end
/-- what the search turns: the table, the steps, whether it has begun -/
def Mc (e base : Nat) (w : World) (br gt N : Nat) (T : List Int) (st : Nat) (bg : Bool) : Prop :=
 br < w.heap.size ∧ w.cell? ⟨br, 5, none⟩ = some (.slice (some ⟨gt, 0, none⟩) N N) ∧ IR e base w gt N N T ∧ w.cell? ⟨br, 6, none⟩ = some (.int .i64 (st : Int)) ∧ w.cell? ⟨br, 7, none⟩ = some (.bool bg) ∧ w.frozen? ⟨br, 6, none⟩ = false ∧ w.frozen? ⟨br, 7, none⟩ = false
section
variable {e base br gt N st : Nat} {w w' : World} {T : List Int} {bg : Bool}
theorem IR.same {g n cap : Nat} {L : List Int} (h : IR e base w g n cap L) (hs : w'.heap[g]? = w.heap[g]?) : IR e base w' g n cap L := ⟨h.1, h.2.1, h.2.2.1, owns_same h.2.2.2 hs⟩
theorem Mc.same (h : Mc e base w br gt N T st bg) (h1 : w'.heap[br]? = w.heap[br]?) (h2 : w'.heap[gt]? = w.heap[gt]?) (hz : w.heap.size ≤ w'.heap.size) : Mc e base w' br gt N T st bg := by
 obtain ⟨h0, c5, hi, c6, c7, f6, f7⟩ := h
 exact ⟨Nat.lt_of_lt_of_le h0 hz, (World.cell?_of_block (a := ⟨br, 5, none⟩) h1).trans c5, hi.same h2, (World.cell?_of_block (a := ⟨br, 6, none⟩) h1).trans c6, (World.cell?_of_block (a := ⟨br, 7, none⟩) h1).trans c7, (World.frozen?_of_block (a := ⟨br, 6, none⟩) h1).trans f6, (World.frozen?_of_block (a := ⟨br, 7, none⟩) h1).trans f7⟩
theorem Mc.below (h : Mc e base w br gt N T st bg) (hb : Below w.heap.size w w') : Mc e base w' br gt N T st bg := h.same (hb.block br h.1) (hb.block gt h.2.2.1.lt) hb.size
end
/-- the box of the reference's search -/
def BxR (w : World) (br : Nat) (vt : Value) (ar : Int) (gd gf gt N : Nat) (vin : Value) : Prop :=
 br < w.heap.size ∧ w.cell? ⟨br, 0, none⟩ = some vt ∧ w.cell? ⟨br, 1, none⟩ = some (.int .i64 ar) ∧ w.cell? ⟨br, 2, none⟩ = some vin ∧ w.cell? ⟨br, 3, none⟩ = some (.slice (some ⟨gd, 0, none⟩) N N) ∧ w.cell? ⟨br, 4, none⟩ = some (.slice (some ⟨gf, 0, none⟩) N N) ∧ w.cell? ⟨br, 5, none⟩ = some (.slice (some ⟨gt, 0, none⟩) N N) ∧
  w.cell? ⟨br, 6, none⟩ = some (.int .i64 0) ∧ w.cell? ⟨br, 7, none⟩ = some (.bool false) ∧ w.frozen? ⟨br, 2, none⟩ = false ∧ w.frozen? ⟨br, 4, none⟩ = false ∧ w.frozen? ⟨br, 6, none⟩ = false ∧ w.frozen? ⟨br, 7, none⟩ = false
theorem BxR.same {w w' : World} {br : Nat} {vt : Value} {ar : Int} {gd gf gt N : Nat} {vin : Value} (h : BxR w br vt ar gd gf gt N vin) (hs : w'.heap[br]? = w.heap[br]?) (hz : w.heap.size ≤ w'.heap.size) : BxR w' br vt ar gd gf gt N vin := by
 obtain ⟨h0, c0, c1, c2, c3, c4, c5, c6, c7, f2, f4, f6, f7⟩ := h
 have c : ∀ i, w'.cell? ⟨br, i, none⟩ = w.cell? ⟨br, i, none⟩ := fun i => World.cell?_of_block (a := ⟨br, i, none⟩) hs
 have f : ∀ i, w'.frozen? ⟨br, i, none⟩ = w.frozen? ⟨br, i, none⟩ := fun i => World.frozen?_of_block (a := ⟨br, i, none⟩) hs
 exact ⟨Nat.lt_of_lt_of_le h0 hz, (c 0).trans c0, (c 1).trans c1, (c 2).trans c2, (c 3).trans c3, (c 4).trans c4, (c 5).trans c5, (c 6).trans c6, (c 7).trans c7, (f 2).trans f2, (f 4).trans f4, (f 6).trans f6, (f 7).trans f7⟩
theorem BxR.set {w : World} {br : Nat} {vt : Value} {ar : Int} {gd gf gt N : Nat} {vin v' : Value} (h : BxR w br vt ar gd gf gt N vin) : BxR (w.setCell ⟨br, 2, none⟩ v') br vt ar gd gf gt N v' := by
 obtain ⟨h0, c0, c1, c2, c3, c4, c5, c6, c7, f2, f4, f6, f7⟩ := h
 have c : ∀ i, i ≠ 2 → (w.setCell ⟨br, 2, none⟩ v').cell? ⟨br, i, none⟩ = w.cell? ⟨br, i, none⟩ := fun _ hi => World.cell?_setCell_other _ _ _ _ (fun e => hi (congrArg Addr.off e.symm))
 have f : ∀ i, (w.setCell ⟨br, 2, none⟩ v').frozen? ⟨br, i, none⟩ = w.frozen? ⟨br, i, none⟩ := fun i => World.frozen?_setCell _ _ _ _
 exact ⟨by simpa [World.setCell] using h0, (c 0 (by decide)).trans c0, (c 1 (by decide)).trans c1, World.cell?_setCell_same _ _ _ c2, (c 3 (by decide)).trans c3, (c 4 (by decide)).trans c4, (c 5 (by decide)).trans c5, (c 6 (by decide)).trans c6, (c 7 (by decide)).trans c7, (f 2).trans f2, (f 4).trans f4, (f 6).trans f6, (f 7).trans f7⟩
end Go.Proofs.YtggelmbnliajeaaGreatDoor
namespace Go.Proofs.YtggelmbnliajeaaGreatDoor
open Go.RowKit Go.Sort
section
variable {t : Tpl} {ar : Int}
end
theorem IR.fp {e base : Nat} {w : World} {g n cap : Nat} {L : List Int} (_h : IR e base w g n cap L) {fp : List Nat} (h2 : intsT.rd w [.slice (some ⟨g, 0, none⟩) n cap] L fp) : ∀ k ∈ fp, k = g := fun k hk => by
 obtain ⟨ad, cap', hv, -, -, h3⟩ := h2
 rcases h3 with ⟨_, rfl⟩ | ⟨_, b, o, fps, rfl, _, rfl, h4⟩
 ·cases hk
 ·simp only [List.cons.injEq, Value.slice.injEq, Option.some.injEq, Addr.mk.injEq, and_true] at hv
  obtain ⟨⟨rfl, rfl⟩, -, -⟩ := hv
  rcases List.mem_cons.1 hk with rfl | hk
  ·rfl
  ·obtain ⟨i, hi, hk⟩ := List.mem_flatMap.1 hk
   obtain ⟨cs, ⟨_, _, hf⟩, _⟩ := h4 i (by simpa using hi)
   rw [hf] at hk
   cases hk
section
variable {t : Tpl} {ar : Int}
end
/-- what the listener keeps: a slice at block bx, of operations in blocks of its own -/
def outF (ar : Int) (bx base : Nat) (told : List (List Int)) (O : Nat → Prop) (w : World) : Prop :=
 (∀ k, O k → k < w.heap.size ∧ base ≤ k) ∧ O bx ∧ w.frozen? ⟨bx, 0, none⟩ = false ∧ ∃ v, w.cell? ⟨bx, 0, none⟩ = some v ∧ (∀ g, v.ownBlock = some g → O g ∧ g ≠ bx) ∧ Bl (opT.on fun k => O k ∧ k ≠ bx) 44 base w.heap.size w v ((told.take 64).map fun x => (ar, x))
theorem outF.stable {ar : Int} {bx base : Nat} {told : List (List Int)} {O : Nat → Prop} {w w' : World} (h : outF ar bx base told O w) (hs : ∀ k, k < w.heap.size → O k → w'.heap[k]? = w.heap[k]?) (hz : w.heap.size ≤ w'.heap.size) : outF ar bx base told O w' := by
 obtain ⟨h1, h2, h3, v, h4, h5, h6⟩ := h
 have hb := hs bx (h1 bx h2).1 h2
 exact ⟨fun k hk => ⟨Nat.lt_of_lt_of_le (h1 k hk).1 hz, (h1 k hk).2⟩, h2, (World.frozen?_of_block (a := ⟨bx, 0, none⟩) hb).trans h3, v, (World.cell?_of_block (a := ⟨bx, 0, none⟩) hb).trans h4, h5, (on_same h6 h5 (fun k hk ho => hs k hk ho.1)).mono hz⟩
theorem rdP_lt {α : Type} {E : Ty α} {ok : Nat → Prop} {w : World} {cs : List Value} {x : α} (h : E.RdP ok w cs x) : E.RdP (fun k => ok k ∧ k < w.heap.size) w cs x := let ⟨fp, h1, h2⟩ := h; ⟨fp, h1, fun k hk => ⟨h2 k hk, E.lt h1 k hk⟩⟩
theorem Ru.lt {ok : Nat → Prop} {w : World} {br : Nat} {t : Tpl} {ar : Int} {due : List (List (Int × List Int))} {fx : List Int} (h : Ru ok w br t ar due fx) : Ru (fun k => ok k ∧ k < w.heap.size) w br t ar due fx := by
 obtain ⟨h1, tb, tq, v2, v3, v4, c0, ht, hk, ct, c1, c2, c3, c4, h3, h4, h5⟩ := h
 exact ⟨h1, tb, tq, v2, v3, v4, c0, ht, ⟨hk, ht⟩, ct, c1, c2, c3, c4, rdP_lt h3, rdP_lt h4, rdP_lt h5⟩
end Go.Proofs.YtggelmbnliajeaaGreatDoor
