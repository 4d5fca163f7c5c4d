/-
Contracts: a finder's data; whether what is due goes.
Contracts: the search for operations, told to a listener.
Contracts: a row of one number so many times (slices.Repeat, for the few lengths that occur).
Small lemmas of lists of tuples that both searches use. No program is named here.
 A finder's data while they are made: rows of lists that are due, each a row of its own, and a row of sets; what each append keeps. No program is named here.
A region that draws its order: what may come up when two or three may; two boxes that are filled last. No program is named here.
Contracts: a finder, made. (Its first region is printed by gen_nf.py.)
Contracts: the reference's search for operations: its data; the next value at a place; whether the conditions hold.
Contracts: the reference's next operation.
 Contracts: the reference's search for operations: the conditions of a relation.
Contracts: how many lists a finder looks at; the code of a template and an arity; polymorphisms counted, the program's.
 Contracts: the reference's search for operations, begun. (The orders of its region are printed by gen_bg.py.)
 Contracts: polymorphisms counted, the reference's; whether there is but one, both sides.
 Contracts: whether there is but one polymorphism of one place, both sides.
 Contracts: the operations that a search finds, listed: the program's listener, and the reference's.
Contracts: whether an operation breaks a relation, the program's.
Contracts: whether an operation is a polymorphism, both sides.
Contracts: the relation of all tuples for which something is so.
Plain mathematics: lists of digits in order; the tuples of a relation made by number are in order.
Plain: the operations that a search lists are those that keep a template; how many are counted; projections and compositions keep what is kept. No program is named here.
Choices from bytes: what the source of choices is; its contracts say what a choice's bounds are, not which one it is.
Choices from bytes: a drawn relation, a drawn template.
Choices from bytes: a drawn template.
Choices from bytes: a drawn template of few tuples.
Choices from bytes: a drawn template by its bytes; a projection.
Choices from bytes: a drawn operation.
An operation drawn from its bytes; whether operations, and lists of them, are the same.
Contracts: the operation of a function of lists; projections, checked.
Contracts: a projection, checked.
Contracts: compositions of operations.
Contracts: the program's search, for any listener that leans on what the operations that it is told are.
Contracts: values that are told to a search.
Plain: a polymorphism with given values. No program is named here.
Contracts: the first operation that a search finds.
Contracts: the first operation that a search finds for which a test is true, whatever the test.
Contracts: the first operation that a search finds for which a test is true: the function itself.
Contracts: the first polymorphism with given values, the program's.
Contracts: a polymorphism with given values, the program's.
Contracts: a polymorphism with given values, the program's, whole.
The library's contracts, laid at this seat's program. Written by the kit's lay-shelf and lay-plain: its numbers hold for that seat alone (shelf2.py).
Contracts: compositions of operations, checked.
The kinds of operations, in plain words; symmetric by sorting, and by swapping neighbours.
Contracts: slices.Sort and slices.Compact on new rows of numbers; the different numbers of a row.
Contracts: something of all lists; whether an operation is symmetric, the program's.
Contracts: a row of one number so many times (slices.Repeat), whatever the number: the text of F6, turned.
-/
import Derived.Test.YtmnjlhcbabhhlaaGreatQAC
import Derived.Deep.CutRange
import Derived.Test.YtmnjlhcbabhhlaaGreatQAB
import Derived.Laws.CopyOwn
import Derived.Test.YtmnjlhcbabhhlaaGreatQAA
import Derived.Deep.LoopGhost
namespace Go.Proofs.YtmnjlhcbabhhlaaGreat
open Go.RowKit Go.Sort
/-- what a finder only reads: at block bs -/
def Fd (ok : Nat → Prop) (w : World) (bs : Nat) (t : Tpl) (ar : Int) (due : List (List (Int × List Int))) (fx : List Int) : Prop :=
 bs < w.heap.size ∧ ∃ v3 v4 v5, w.cell? ⟨bs, 0, none⟩ = some (.int .i64 t.1) ∧ w.cell? ⟨bs, 2, none⟩ = some (.int .i64 ar) ∧ w.cell? ⟨bs, 3, none⟩ = some v3 ∧ w.cell? ⟨bs, 4, none⟩ = some v4 ∧ w.cell? ⟨bs, 5, none⟩ = some v5 ∧
  duesT.RdP ok w [v3] due ∧ (Ty.slice boolsT).RdP ok w [v4] (insF t) ∧ intsT.RdP ok w [v5] fx
section
variable {ok ok' : Nat → Prop} {w w' : World} {bs : Nat} {t : Tpl} {ar : Int} {due : List (List (Int × List Int))} {fx : List Int}
theorem Fd.below (h : Fd ok w bs t ar due fx) (hb : Below w.heap.size w w') : Fd ok w' bs t ar due fx := by
 obtain ⟨h1, v3, v4, v5, c0, c2, c3, c4, c5, h3, h4, h5⟩ := h
 exact ⟨Nat.lt_of_lt_of_le h1 hb.size, v3, v4, v5, (hb.cell (p := ⟨bs, 0, none⟩) h1).trans c0, (hb.cell (p := ⟨bs, 2, none⟩) h1).trans c2, (hb.cell (p := ⟨bs, 3, none⟩) h1).trans c3, (hb.cell (p := ⟨bs, 4, none⟩) h1).trans c4, (hb.cell (p := ⟨bs, 5, none⟩) h1).trans c5, h3.below hb, h4.below hb, h5.below hb⟩
/-- its own last two cells and other blocks may be written -/
theorem Fd.tchP {O : Nat → Prop} (h : Fd ok w bs t ar due fx) (ht : TchP O w w') (hO : ∀ k, k < w.heap.size → ok k → ¬ O k) (hb : ¬ O bs) : Fd ok w' bs t ar due fx := by
 obtain ⟨h1, v3, v4, v5, c0, c2, c3, c4, c5, h3, h4, h5⟩ := h
 exact ⟨Nat.lt_of_lt_of_le h1 ht.size, v3, v4, v5, (ht.cell h1 hb).trans c0, (ht.cell h1 hb).trans c2, (ht.cell h1 hb).trans c3, (ht.cell h1 hb).trans c4, (ht.cell h1 hb).trans c5, h3.tchP ht hO, h4.tchP ht hO, h5.tchP ht hO⟩
theorem Fd.set {i : Nat} {u : Value} (h : Fd ok w bs t ar due fx) (hi : 6 ≤ i) (hO : ¬ ok bs) : Fd ok (w.setCell ⟨bs, i, none⟩ u) bs t ar due fx := by
 obtain ⟨h1, v3, v4, v5, c0, c2, c3, c4, c5, h3, h4, h5⟩ := h
 have hs : TchP (fun k => k = bs) w (w.setCell ⟨bs, i, none⟩ u) := TchP.set rfl
 have hk : ∀ k, k < w.heap.size → ok k → ¬ (k = bs) := fun k _ hk e => hO (e ▸ hk)
 have hc : ∀ j, j < 6 → (w.setCell ⟨bs, i, none⟩ u).cell? ⟨bs, j, none⟩ = w.cell? ⟨bs, j, none⟩ := fun j hj => World.cell?_setCell_other _ _ _ _ (by first | (simp; done) | (simp; omega))
 exact ⟨by simpa [World.setCell] using h1, v3, v4, v5, (hc 0 (by omega)).trans c0, (hc 2 (by omega)).trans c2, (hc 3 (by omega)).trans c3, (hc 4 (by omega)).trans c4, (hc 5 (by omega)).trans c5, h3.tchP hs hk, h4.tchP hs hk, h5.tchP hs hk⟩
theorem Fd.mono (h : Fd ok w bs t ar due fx) (hk : ∀ k, k < w.heap.size → ok k → ok' k) : Fd ok' w bs t ar due fx := by
 obtain ⟨h1, v3, v4, v5, c0, c2, c3, c4, c5, h3, h4, h5⟩ := h
 exact ⟨h1, v3, v4, v5, c0, c2, c3, c4, c5, h3.mono hk, h4.mono hk, h5.mono hk⟩
end
end Go.Proofs.YtmnjlhcbabhhlaaGreat
namespace Go.Proofs.YtmnjlhcbabhhlaaGreat
open Go.RowKit Go.Sort
/-- what a search turns: how many steps, the values so far, in a row of its own -/
def Tb (e base : Nat) (w : World) (bs st : Nat) (v : Value) (vals : List Int) : Prop :=
 w.cell? ⟨bs, 6, none⟩ = some (.int .i64 (st : Int)) ∧ w.cell? ⟨bs, 7, none⟩ = some v ∧ w.frozen? ⟨bs, 6, none⟩ = false ∧ w.frozen? ⟨bs, 7, none⟩ = false ∧ Bl Ty.int e base w.heap.size w v vals
theorem Tb.same {e base : Nat} {w w' : World} {bs st : Nat} {v : Value} {vals : List Int} (h : Tb e base w bs st v vals) (hb : w'.heap[bs]? = w.heap[bs]?) (hs : ∀ b, v.ownBlock = some b → w'.heap[b]? = w.heap[b]?) (hz : w.heap.size ≤ w'.heap.size) : Tb e base w' bs st v vals :=
 let ⟨h1, h2, h3, h4, h5⟩ := h
 ⟨(World.cell?_of_block (a := ⟨bs, 6, none⟩) hb).trans h1, (World.cell?_of_block (a := ⟨bs, 7, none⟩) hb).trans h2, (World.frozen?_of_block (a := ⟨bs, 6, none⟩) hb).trans h3, (World.frozen?_of_block (a := ⟨bs, 7, none⟩) hb).trans h4, bl_int_same h5 hs hz⟩
theorem Tb.below {e base : Nat} {w w' : World} {bs st : Nat} {v : Value} {vals : List Int} (h : Tb e base w bs st v vals) (hl : bs < w.heap.size) (hb : Below w.heap.size w w') : Tb e base w' bs st v vals :=
 h.same (hb.block bs hl) (fun _ hq => hb.block _ (h.2.2.2.2.lt_top hq)) hb.size
/-- a listener of operations: what it keeps (I), and the blocks that are its own (O) -/
structure Yf (P : Program) (ar : Int) (g : FuncId) (caps : Array Value) (yc : List (List Int) → Int) (I : List (List Int) → (Nat → Prop) → World → Prop) : Prop where
 stable : ∀ {told O w w'}, I told O w → (∀ k, k < w.heap.size → O k → w'.heap[k]? = w.heap[k]?) → w.heap.size ≤ w'.heap.size → I told O w'
 lt : ∀ {told O w}, I told O w → ∀ k, O k → k < w.heap.size
 step : ∀ {told O w0 w u x}, I told O w0 → Below w0.heap.size w0 w → intsT.Fr w0.heap.size w [u] x → x.length ≤ 64 → told.length ≤ 2000000 →
  Calls P g (#[.agg #[.int .i64 ar, u]] ++ caps) w fun e w' => e = .returned (.int .i64 (yc (told ++ [x]))) ∧ ∃ O', I (told ++ [x]) O' w' ∧ TchP O w w' ∧ ∀ k, O' k → O k ∨ w0.heap.size ≤ k
/-- how a search leaves memory -/
def SrR (e base : Nat) (ok : Nat → Prop) (bs : Nat) (t : Tpl) (ar : Int) (due : List (List (Int × List Int))) (fx : List Int) (I : List (List Int) → (Nat → Prop) → World → Prop) (w : World) (v : Value) (O : Nat → Prop) (vals : List Int) (R : FR) (w' : World) : Prop :=
 ∃ v' O', Fd ok w' bs t ar due fx ∧ Tb e base w' bs R.2.1 v' vals ∧ I R.2.2 O' w' ∧ (∀ k, O' k → O k ∨ w.heap.size ≤ k) ∧ (∀ k, v'.ownBlock = some k → ¬ O' k ∧ (v.ownBlock = some k ∨ w.heap.size ≤ k)) ∧ TchP (fun k => O k ∨ k = bs ∨ v.ownBlock = some k) w w'
theorem SrR.mk {e base : Nat} {ok : Nat → Prop} {bs : Nat} {t : Tpl} {ar : Int} {due : List (List (Int × List Int))} {fx : List Int} {I : List (List Int) → (Nat → Prop) → World → Prop} {w : World} {v : Value} {O : Nat → Prop} {vals : List Int} {R : FR} {w' : World} (v' : Value) (O' : Nat → Prop)
  (h1 : Fd ok w' bs t ar due fx) (h2 : Tb e base w' bs R.2.1 v' vals) (h3 : I R.2.2 O' w') (h4 : ∀ k, O' k → O k ∨ w.heap.size ≤ k) (h5 : ∀ k, v'.ownBlock = some k → ¬ O' k ∧ (v.ownBlock = some k ∨ w.heap.size ≤ k)) (h6 : TchP (fun k => O k ∨ k = bs ∨ v.ownBlock = some k) w w') : SrR e base ok bs t ar due fx I w v O vals R w' :=
 ⟨v', O', h1, h2, h3, h4, h5, h6⟩
end Go.Proofs.YtmnjlhcbabhhlaaGreat
namespace Go.Proofs.YtmnjlhcbabhhlaaGreat
open Go.RowKit Go.Sort
end Go.Proofs.YtmnjlhcbabhhlaaGreat
namespace Go.Proofs.YtmnjlhcbabhhlaaGreat
open Go.RowKit Go.Sort
abbrev ZP := (Int × List Int) × (Int × Value)
def zF (Z : List ZP) (v : Nat) : List ZP := Z.filter fun z => topI z.1.2 == (v : Int)
/-- blocks of what is finished -/
def okN (base N : Nat) (us : Nat → Value) (vin : Value) (k : Nat) : Prop := base ≤ k ∧ (∀ v, v < N → (us v).ownBlock ≠ some k) ∧ vin.ownBlock ≠ some k
structure FinS (B : Ty (List Bool)) (eL eR eB base N : Nat) (w : World) (g : Nat) (us : Nat → Value) (vin : Value) (Z : List ZP) (vs : List Value) (ins : List (List Bool)) : Prop where
 du : DU eL eR base w.heap.size w g N us (fun v => (zF Z v).map (·.2))
 zs : ∀ z ∈ Z, pvR (okN base N us vin) w z
 vi : Bl Ty.val eB base w.heap.size w vin vs
 bl : vs.length = ins.length
 br : ∀ i (h : i < vs.length) (h' : i < ins.length), B.RdP (okN base N us vin) w [vs[i]] ins[i]
 vu : ∀ v, v < N → ∀ k, (us v).ownBlock = some k → vin.ownBlock ≠ some k
section
variable {B : Ty (List Bool)} {eL eR eB base N g : Nat} {w w' : World} {us : Nat → Value} {vin : Value} {Z : List ZP} {vs : List Value} {ins : List (List Bool)}
theorem FinS.lt (h : FinS B eL eR eB base N w g us vin Z vs ins) : g < w.heap.size := h.du.lt
theorem FinS.below (h : FinS B eL eR eB base N w g us vin Z vs ins) (hB : base ≤ w.heap.size) (hb : Below w.heap.size w w') : FinS B eL eR eB base N w' g us vin Z vs ins :=
 ⟨(h.du.below hb (Nat.le_refl _) hB).mono hb.size, fun z hz => (h.zs z hz).below hb, (h.vi.below hb (Nat.le_refl _)).mono hb.size, h.bl, fun i h1 h2 => (h.br i h1 h2).below hb, h.vu⟩
/-- a cell of an older block -/
theorem FinS.set {b i : Nat} {u : Value} (h : FinS B eL eR eB base N w g us vin Z vs ins) (hb : b < base) (hg : b ≠ g) : FinS B eL eR eB base N (w.setCell ⟨b, i, none⟩ u) g us vin Z vs ins := by
 have ht : TchP (fun k => k = b) w (w.setCell ⟨b, i, none⟩ u) := TchP.set rfl
 have hk : ∀ k, k < w.heap.size → okN base N us vin k → ¬ (k = b) := fun k _ hk e => by have := hk.1; omega
 have hz : (w.setCell ⟨b, i, none⟩ u).heap.size = w.heap.size := by simp [World.setCell]
 have hh : ∀ k, k ≠ b → (w.setCell ⟨b, i, none⟩ u).heap[k]? = w.heap[k]? := fun k hk => Below.heap_setCell _ _ _ _ hk
 refine ⟨?_, fun z hz => (h.zs z hz).tchP ht hk, bl_val_same h.vi (fun q hq => hh q (by have := h.vi.ge hq; omega)) (by rw [hz]; exact Nat.le_refl _), h.bl, fun j h1 h2 => (h.br j h1 h2).tchP ht hk, h.vu⟩
 obtain ⟨d1, d2, d3, d4⟩ := h.du
 refine ⟨owns_same d1 (hh g (Ne.symm hg)), d2, fun v hv => ?_, d4⟩
 exact pv_same (d3 v hv) (fun q hq => hh q (by have := (d3 v hv).ge hq; omega)) (by rw [hz]; exact Nat.le_refl _)
theorem FinS.sets (h : FinS B eL eR eB base N w g us vin Z vs ins) (hB : B.sz = 1) (hn : vs.length ≤ 1000) : (Ty.slice B).RdP (fun k => k = g ∨ base ≤ k) w [vin] ins :=
 rows_ofP hB (bl_val_rdP h.vi (by unfold capMax; omega) (fun q hq => .inr (h.vi.ge hq))) h.bl (fun i h1 h2 => (h.br i h1 h2).mono (fun k _ hk => .inr hk.1))
end
/-- nothing is there yet -/
theorem FinS.start {B : Ty (List Bool)} {eL eR eB base N g : Nat} {w : World} (h : ∀ eA top, DU eA eR base top w g N (fun _ => .slice none 0 0) (fun _ => [])) : FinS B eL eR eB base N w g (fun _ => .slice none 0 0) (.slice none 0 0) [] [] [] :=
 ⟨by simpa [zF] using h eL w.heap.size, fun z hz => by simp at hz, Bl.nil, rfl, fun i h => by simp at h, fun v _ k hk => by simp [Value.ownBlock] at hk⟩
end Go.Proofs.YtmnjlhcbabhhlaaGreat
namespace Go.Proofs.YtmnjlhcbabhhlaaGreat
open Go.RowKit
section
variable {P : Program} {ops : Array Oper} {Q : Exit → Act → World → Prop} {md : Region.Mode} {S : World → Prop} {tail : List Nat}
/-- number i comes up -/
def stepT (P : Program) (md : Region.Mode) (ops : Array Oper) (Q : Exit → Act → World → Prop) (S : World → Prop) (tail : List Nat) (fuel : Nat) (listed : Array Bool) (a : Act) (w : World) (i : Nat) (o : Oper) : Prop :=
 ∀ K' : Act → World → Prop, Shut (∀ a w, S w → (S w → wpAnyT P md ops Q S tail fuel (listed.setIfInBounds i true) a w) → K' a w) → if Region.wanted o (yielded ops a.tmps) = true then Oper.wp P o a w K' Q else K' (a.put o.dst undef) w
theorem wpAnyT_two {i j : Nat} {oi oj : Oper} {fuel : Nat} {listed : Array Bool} {a : Act} {w : World} (hi : ops[i]? = some oi) (hj : ops[j]? = some oj) (hr : Region.ready md ops listed = [i, j])
  (h1 : stepT P md ops Q S tail fuel listed a w i oi) (h2 : stepT P md ops Q S tail fuel listed a w j oj) : wpAnyT P md ops Q S tail (fuel + 1) listed a w := by
 refine ⟨fun h0 => (by rw [h0] at hr; cases hr), fun k hk => ?_⟩
 rw [hr] at hk
 have hk' : k = i ∨ k = j := by simpa using hk
 rcases hk' with rfl | rfl
 ·exact wpOp_step hi (fun K' hK => h1 K' (fun a w hS hW => hK a w ⟨fun _ => hS, hW hS⟩))
 ·exact wpOp_step hj (fun K' hK => h2 K' (fun a w hS hW => hK a w ⟨fun _ => hS, hW hS⟩))
end
end Go.Proofs.YtmnjlhcbabhhlaaGreat
namespace Go.Proofs.YtmnjlhcbabhhlaaGreat
open Go.RowKit Go.Sort
end Go.Proofs.YtmnjlhcbabhhlaaGreat
namespace Go.Proofs.YtmnjlhcbabhhlaaGreat
open Go.RowKit Go.Sort
/-- what the reference's search only reads: at block br -/
def Ru (ok : Nat → Prop) (w : World) (br : Nat) (t : Tpl) (ar : Int) (due : List (List (Int × List Int))) (fx : List Int) : Prop :=
 br < w.heap.size ∧ ∃ tb tw v2 v3 v4, w.cell? ⟨br, 0, none⟩ = some (.pointer (some ⟨tb, tw, none⟩)) ∧ tb < w.heap.size ∧ ok tb ∧ w.cell? ⟨tb, tw, none⟩ = some (.int .i64 t.1) ∧ w.cell? ⟨br, 1, none⟩ = some (.int .i64 ar) ∧ w.cell? ⟨br, 2, none⟩ = some v2 ∧ w.cell? ⟨br, 3, none⟩ = some v3 ∧ w.cell? ⟨br, 4, none⟩ = some v4 ∧
  (Ty.slice Ty.setp).RdP ok w [v2] (insF t) ∧ duesT.RdP ok w [v3] due ∧ intsT.RdP ok w [v4] fx
section
variable {ok ok' : Nat → Prop} {w w' : World} {br : Nat} {t : Tpl} {ar : Int} {due : List (List (Int × List Int))} {fx : List Int}
theorem Ru.below (h : Ru ok w br t ar due fx) (hb : Below w.heap.size w w') : Ru ok w' br t ar due fx := by
 obtain ⟨h1, tb, tw, v2, v3, v4, c0, ht, hk, ct, c1, c2, c3, c4, h3, h4, h5⟩ := h
 exact ⟨Nat.lt_of_lt_of_le h1 hb.size, tb, tw, v2, v3, v4, (hb.cell (p := ⟨br, 0, none⟩) h1).trans c0, Nat.lt_of_lt_of_le ht hb.size, hk, (hb.cell (p := ⟨tb, tw, none⟩) ht).trans ct, (hb.cell (p := ⟨br, 1, none⟩) h1).trans c1, (hb.cell (p := ⟨br, 2, none⟩) h1).trans c2, (hb.cell (p := ⟨br, 3, none⟩) h1).trans c3, (hb.cell (p := ⟨br, 4, none⟩) h1).trans c4, h3.below hb, h4.below hb, h5.below hb⟩
theorem Ru.tchP {O : Nat → Prop} (h : Ru ok w br t ar due fx) (ht : TchP O w w') (hO : ∀ k, k < w.heap.size → ok k → ¬ O k) (hb : ¬ O br) : Ru ok w' br t ar due fx := by
 obtain ⟨h1, tb, tw, v2, v3, v4, c0, htb, hk, ct, c1, c2, c3, c4, h3, h4, h5⟩ := h
 exact ⟨Nat.lt_of_lt_of_le h1 ht.size, tb, tw, v2, v3, v4, (ht.cell h1 hb).trans c0, Nat.lt_of_lt_of_le htb ht.size, hk, (ht.cell htb (hO tb htb hk)).trans ct, (ht.cell h1 hb).trans c1, (ht.cell h1 hb).trans c2, (ht.cell h1 hb).trans c3, (ht.cell h1 hb).trans c4, h3.tchP ht hO, h4.tchP ht hO, h5.tchP ht hO⟩
theorem Ru.set {i : Nat} {u : Value} (h : Ru ok w br t ar due fx) (hi : 5 ≤ i) (hO : ¬ ok br) : Ru ok (w.setCell ⟨br, i, none⟩ u) br t ar due fx := by
 obtain ⟨h1, tb, tw, v2, v3, v4, c0, htb, hk, ct, c1, c2, c3, c4, h3, h4, h5⟩ := h
 have hs : TchP (fun k => k = br) w (w.setCell ⟨br, i, none⟩ u) := TchP.set rfl
 have hkk : ∀ k, k < w.heap.size → ok k → ¬ (k = br) := fun k _ hk e => hO (e ▸ hk)
 have hc : ∀ j, j < 5 → (w.setCell ⟨br, i, none⟩ u).cell? ⟨br, j, none⟩ = w.cell? ⟨br, j, none⟩ := fun j hj => World.cell?_setCell_other _ _ _ _ (by first | (simp; done) | (simp; omega))
 exact ⟨by simpa [World.setCell] using h1, tb, tw, v2, v3, v4, (hc 0 (by omega)).trans c0, by simpa [World.setCell] using htb, hk, (hs.cell htb (hkk tb htb hk)).trans ct, (hc 1 (by omega)).trans c1, (hc 2 (by omega)).trans c2, (hc 3 (by omega)).trans c3, (hc 4 (by omega)).trans c4, h3.tchP hs hkk, h4.tchP hs hkk, h5.tchP hs hkk⟩
end
theorem atL_pre {T ps : List Int} {k : Nat} (h : ∀ p ∈ ps, 0 ≤ p ∧ p < (k : Int)) : atL (T.take k) ps = atL T ps := by
 unfold atL
 refine List.map_congr_left fun p hp => ?_
 have := h p hp
 rw [List.getD_eq_getElem?_getD, List.getD_eq_getElem?_getD, List.getElem?_take_of_lt (by omega)]
end Go.Proofs.YtmnjlhcbabhhlaaGreat
namespace Go.Proofs.YtmnjlhcbabhhlaaGreat
open Go.RowKit Go.Sort
section
variable {N : Nat} {pre : List Int} {cur v : Int}
end
/-- what the search turns: the table, the steps, whether it has begun -/
def Mc (e base : Nat) (w : World) (br gt N : Nat) (T : List Int) (st : Nat) (bg : Bool) : Prop :=
 br < w.heap.size ∧ w.cell? ⟨br, 5, none⟩ = some (.slice (some ⟨gt, 0, none⟩) N N) ∧ IR e base w gt N N T ∧ w.cell? ⟨br, 6, none⟩ = some (.int .i64 (st : Int)) ∧ w.cell? ⟨br, 7, none⟩ = some (.bool bg) ∧ w.frozen? ⟨br, 6, none⟩ = false ∧ w.frozen? ⟨br, 7, none⟩ = false
section
variable {e base br gt N st : Nat} {w w' : World} {T : List Int} {bg : Bool}
theorem IR.same {g n cap : Nat} {L : List Int} (h : IR e base w g n cap L) (hs : w'.heap[g]? = w.heap[g]?) : IR e base w' g n cap L := ⟨h.1, h.2.1, h.2.2.1, owns_same h.2.2.2 hs⟩
theorem Mc.same (h : Mc e base w br gt N T st bg) (h1 : w'.heap[br]? = w.heap[br]?) (h2 : w'.heap[gt]? = w.heap[gt]?) (hz : w.heap.size ≤ w'.heap.size) : Mc e base w' br gt N T st bg := by
 obtain ⟨h0, c5, hi, c6, c7, f6, f7⟩ := h
 exact ⟨Nat.lt_of_lt_of_le h0 hz, (World.cell?_of_block (a := ⟨br, 5, none⟩) h1).trans c5, hi.same h2, (World.cell?_of_block (a := ⟨br, 6, none⟩) h1).trans c6, (World.cell?_of_block (a := ⟨br, 7, none⟩) h1).trans c7, (World.frozen?_of_block (a := ⟨br, 6, none⟩) h1).trans f6, (World.frozen?_of_block (a := ⟨br, 7, none⟩) h1).trans f7⟩
theorem Mc.below (h : Mc e base w br gt N T st bg) (hb : Below w.heap.size w w') : Mc e base w' br gt N T st bg := h.same (hb.block br h.1) (hb.block gt h.2.2.1.lt) hb.size
end
/-- the box of the reference's search -/
def BxR (w : World) (br : Nat) (vt : Value) (ar : Int) (gd gf gt N : Nat) (vin : Value) : Prop :=
 br < w.heap.size ∧ w.cell? ⟨br, 0, none⟩ = some vt ∧ w.cell? ⟨br, 1, none⟩ = some (.int .i64 ar) ∧ w.cell? ⟨br, 2, none⟩ = some vin ∧ w.cell? ⟨br, 3, none⟩ = some (.slice (some ⟨gd, 0, none⟩) N N) ∧ w.cell? ⟨br, 4, none⟩ = some (.slice (some ⟨gf, 0, none⟩) N N) ∧ w.cell? ⟨br, 5, none⟩ = some (.slice (some ⟨gt, 0, none⟩) N N) ∧
  w.cell? ⟨br, 6, none⟩ = some (.int .i64 0) ∧ w.cell? ⟨br, 7, none⟩ = some (.bool false) ∧ w.frozen? ⟨br, 2, none⟩ = false ∧ w.frozen? ⟨br, 4, none⟩ = false ∧ w.frozen? ⟨br, 6, none⟩ = false ∧ w.frozen? ⟨br, 7, none⟩ = false
theorem BxR.same {w w' : World} {br : Nat} {vt : Value} {ar : Int} {gd gf gt N : Nat} {vin : Value} (h : BxR w br vt ar gd gf gt N vin) (hs : w'.heap[br]? = w.heap[br]?) (hz : w.heap.size ≤ w'.heap.size) : BxR w' br vt ar gd gf gt N vin := by
 obtain ⟨h0, c0, c1, c2, c3, c4, c5, c6, c7, f2, f4, f6, f7⟩ := h
 have c : ∀ i, w'.cell? ⟨br, i, none⟩ = w.cell? ⟨br, i, none⟩ := fun i => World.cell?_of_block (a := ⟨br, i, none⟩) hs
 have f : ∀ i, w'.frozen? ⟨br, i, none⟩ = w.frozen? ⟨br, i, none⟩ := fun i => World.frozen?_of_block (a := ⟨br, i, none⟩) hs
 exact ⟨Nat.lt_of_lt_of_le h0 hz, (c 0).trans c0, (c 1).trans c1, (c 2).trans c2, (c 3).trans c3, (c 4).trans c4, (c 5).trans c5, (c 6).trans c6, (c 7).trans c7, (f 2).trans f2, (f 4).trans f4, (f 6).trans f6, (f 7).trans f7⟩
theorem BxR.set {w : World} {br : Nat} {vt : Value} {ar : Int} {gd gf gt N : Nat} {vin v' : Value} (h : BxR w br vt ar gd gf gt N vin) : BxR (w.setCell ⟨br, 2, none⟩ v') br vt ar gd gf gt N v' := by
 obtain ⟨h0, c0, c1, c2, c3, c4, c5, c6, c7, f2, f4, f6, f7⟩ := h
 have c : ∀ i, i ≠ 2 → (w.setCell ⟨br, 2, none⟩ v').cell? ⟨br, i, none⟩ = w.cell? ⟨br, i, none⟩ := fun _ hi => World.cell?_setCell_other _ _ _ _ (fun e => hi (congrArg Addr.off e.symm))
 have f : ∀ i, (w.setCell ⟨br, 2, none⟩ v').frozen? ⟨br, i, none⟩ = w.frozen? ⟨br, i, none⟩ := fun i => World.frozen?_setCell _ _ _ _
 exact ⟨by simpa [World.setCell] using h0, (c 0 (by decide)).trans c0, (c 1 (by decide)).trans c1, World.cell?_setCell_same _ _ _ c2, (c 3 (by decide)).trans c3, (c 4 (by decide)).trans c4, (c 5 (by decide)).trans c5, (c 6 (by decide)).trans c6, (c 7 (by decide)).trans c7, (f 2).trans f2, (f 4).trans f4, (f 6).trans f6, (f 7).trans f7⟩
end Go.Proofs.YtmnjlhcbabhhlaaGreat
namespace Go.Proofs.YtmnjlhcbabhhlaaGreat
open Go.RowKit Go.Sort
section
variable {t : Tpl} {ar : Int}
end
theorem IR.fp {e base : Nat} {w : World} {g n cap : Nat} {L : List Int} (_h : IR e base w g n cap L) {fp : List Nat} (h2 : intsT.rd w [.slice (some ⟨g, 0, none⟩) n cap] L fp) : ∀ k ∈ fp, k = g := fun k hk => by
 obtain ⟨ad, cap', hv, -, -, h3⟩ := h2
 rcases h3 with ⟨_, rfl⟩ | ⟨_, b, o, fps, rfl, _, rfl, h4⟩
 ·cases hk
 ·simp only [List.cons.injEq, Value.slice.injEq, Option.some.injEq, Addr.mk.injEq, and_true] at hv
  obtain ⟨⟨rfl, rfl⟩, -, -⟩ := hv
  rcases List.mem_cons.1 hk with rfl | hk
  ·rfl
  ·obtain ⟨i, hi, hk⟩ := List.mem_flatMap.1 hk
   obtain ⟨cs, ⟨_, _, hf⟩, _⟩ := h4 i (by simpa using hi)
   rw [hf] at hk
   cases hk
section
variable {t : Tpl} {ar : Int}
end
theorem rdP_lt {α : Type} {E : Ty α} {ok : Nat → Prop} {w : World} {cs : List Value} {x : α} (h : E.RdP ok w cs x) : E.RdP (fun k => ok k ∧ k < w.heap.size) w cs x := let ⟨fp, h1, h2⟩ := h; ⟨fp, h1, fun k hk => ⟨h2 k hk, E.lt h1 k hk⟩⟩
theorem Ru.lt {ok : Nat → Prop} {w : World} {br : Nat} {t : Tpl} {ar : Int} {due : List (List (Int × List Int))} {fx : List Int} (h : Ru ok w br t ar due fx) : Ru (fun k => ok k ∧ k < w.heap.size) w br t ar due fx := by
 obtain ⟨h1, tb, tq, v2, v3, v4, c0, ht, hk, ct, c1, c2, c3, c4, h3, h4, h5⟩ := h
 exact ⟨h1, tb, tq, v2, v3, v4, c0, ht, ⟨hk, ht⟩, ct, c1, c2, c3, c4, rdP_lt h3, rdP_lt h4, rdP_lt h5⟩
end Go.Proofs.YtmnjlhcbabhhlaaGreat
namespace Go.Proofs.YtmnjlhcbabhhlaaGreat
open Go.RowKit Go.Sort
/-- what broken hands back: nil in the second place just if the relation is kept -/
def BrkR (b : Bool) (e : Ending) : Prop := ∃ a o m, e = .returned (.tuple #[a, .slice o m m]) ∧ (b = true → o = none ∧ m = 0) ∧ (b = false → ∃ g : Nat, o = some ⟨g, 0, none⟩)
theorem BrkR.yes {b : Bool} {a : Value} (h : b = true) : BrkR b (.returned (.tuple #[a, .slice none 0 0])) := ⟨a, none, 0, rfl, fun _ => ⟨rfl, rfl⟩, (fun h' => by rw [h] at h'; cases h')⟩
theorem BrkR.no {b : Bool} {a : Value} {g m : Nat} (h : b = false) : BrkR b (.returned (.tuple #[a, .slice (some ⟨g, 0, none⟩) m m])) := ⟨a, _, m, rfl, (fun h' => by rw [h] at h'; cases h'), fun _ => ⟨g, rfl⟩⟩
end Go.Proofs.YtmnjlhcbabhhlaaGreat
namespace Go.Proofs.YtmnjlhcbabhhlaaGreat
open Go.RowKit Go.Sort
end Go.Proofs.YtmnjlhcbabhhlaaGreat
namespace Go.Proofs.YtmnjlhcbabhhlaaGreat
open Go.RowKit Go.Sort
/-- the tuples for which it is so, of the first k ones -/
def relL (s : Int) (ar : Nat) (p : List Int → Bool) (k : Nat) : List (List Int) := ((List.range k).map fun i : Nat => digL s i ar).filter p
theorem relL_zero {s : Int} {ar : Nat} {p : List Int → Bool} : relL s ar p 0 = [] := by simp [relL]
theorem relL_yes {s : Int} {ar : Nat} {p : List Int → Bool} {k : Nat} (h : p (digL s k ar) = true) : relL s ar p k ++ [digL s k ar] = relL s ar p (k + 1) := by simp [relL, List.range_succ, h]
theorem relL_no {s : Int} {ar : Nat} {p : List Int → Bool} {k : Nat} (h : p (digL s k ar) = false) : relL s ar p k = relL s ar p (k + 1) := by simp [relL, List.range_succ, h]
theorem relL_len {s : Int} {ar : Nat} {p : List Int → Bool} {k : Nat} : (relL s ar p k).length ≤ k := by
 unfold relL
 exact Nat.le_trans (List.length_filter_le _ _) (by simp)
set_option maxHeartbeats 3200000 in
set_option maxRecDepth 100000 in
theorem relOf_any (w : World) (s : Int) (ar : Nat) (hs : 1 ≤ s ∧ s ≤ 4) (har : ar ≤ 4) (g : Nat) (caps : Array Value) (eg : ∀ args w, (callFunc g args).run Tryz.prog w = .ok (.enter g args) w) (p : List Int → Bool) (N : Nat) (hN : s ^ ar = N)
  (hto : Hid (∀ W u (k : Nat), Below w.heap.size w W → k < N → intsT.Rd W [u] (digL s k ar) → Calls Tryz.prog g (#[u] ++ caps) W fun e w' => e = .returned (.bool (p (digL s k ar))) ∧ Below W.heap.size W w')) :
  Calls Tryz.prog 48 #[.int .i64 s, .int .i64 ar, .func (.func g) #[] caps] w (RetA relT w ((ar : Int), relL s ar p N)) := by
 have hNle : N ≤ 1000000 := by
  have h1 : s ^ ar ≤ 1000000 := by
   refine Int.le_trans (pow_mono' (by omega) (show s ≤ 4 by omega) ar) ?_
   rcases (show ar = 0 ∨ ar = 1 ∨ ar = 2 ∨ ar = 3 ∨ ar = 4 by omega) with e | e | e | e | e <;> rw [e] <;> decide
  omega
 have HN : Hid (s ^ ((ar : Int)).toNat = N) := by unfold Hid; rw [Int.toNat_natCast]; exact hN
 clear hN
 go_enter Tryz.func48, Tryz.ntmps48
 go_wp2_with fail
 generalize hW : World.alloc _ _ = W
 have hbW : Below w.heap.size w W := hW ▸ bAA
 have hsW : W.heap.size = w.heap.size + 2 := by rw [← hW]; simp
 have r0 : W.cell? ⟨w.heap.size, 0, none⟩ = some (.int .i64 0) := by rw [← hW]; simp [go_sem]
 have r1 : W.cell? ⟨w.heap.size, 1, none⟩ = some (.slice none 0 0) := by rw [← hW]; simp [go_sem]
 have m0 : W.frozen? ⟨w.heap.size, 0, none⟩ = false := by rw [← hW]; simp [go_sem]
 have m1 : W.frozen? ⟨w.heap.size, 1, none⟩ = false := by rw [← hW]; simp [go_sem]
 have y0 : W.cell? ⟨w.heap.size + 1, 0, none⟩ = some (.int .i64 (ar : Int)) := by rw [← hW]; simp [go_sem]
 have y1 : W.cell? ⟨w.heap.size + 1, 1, none⟩ = some (.slice none 0 0) := by rw [← hW]; simp [go_sem]
 have n1 : W.frozen? ⟨w.heap.size + 1, 1, none⟩ = false := by rw [← hW]; simp [go_sem]
 clear hW
 refine (power_any _ s (ar : Int) (by omega) (by omega) (by omega)).mono ?_
 rintro e _ ⟨rfl, rfl⟩
 rw [HN.out]
 go_wp2_with fail
 go_loopw [15] (fun i wr => ∃ (k : Nat) (v : Value), k ≤ N ∧ i = .int .i64 k ∧ Bl intsT 50 (w.heap.size + 2) wr.heap.size wr v (relL s ar p k) ∧ wr.cell? ⟨w.heap.size + 1, 1, none⟩ = some v ∧ wr.cell? ⟨w.heap.size + 1, 0, none⟩ = some (.int .i64 (ar : Int)) ∧ wr.frozen? ⟨w.heap.size + 1, 1, none⟩ = false ∧ Below (w.heap.size + 1) W wr ∧ w.heap.size + 2 ≤ wr.heap.size) (fun i _ => N - (intOf i).toNat)
 case atStart => exact ⟨0, _, Nat.zero_le _, rfl, by rw [relL_zero]; simpa using Bl.nil, y1, y0, n1, Below.refl _ _, by omega⟩
 case round =>
  obtain ⟨k, v, hk, rfl, hBv, z1, z0, zn, hbe, hse⟩ := hrel
  have hlr := relL_len (s := s) (ar := ar) (p := p) (k := k)
  obtain ⟨av0, nv0, cv0, rfl⟩ := ex_slice (hBv.fr (by unfold capMax; omega))
  have HBv := Lib.hid hBv
  have hbw : Below w.heap.size w wr := hbW.trans (hbe.mono (by omega))
  clear hBv y0 y1 n1
  by_cases hkl : k < N
  ·go_wp2_with fail
   refine (listOf_any _ s (k : Int) ar (by omega) (by omega) (by omega) (by omega) (by omega)).mono ?_
   rintro e w2 ⟨u, rfl, hf, hb2⟩
   obtain ⟨a2, n2, c2, rfl⟩ := ex_slice hf
   have HF := Lib.hid hf
   have hz2 := hb2.size
   replace z0 := (cellB hb2 (by omega)).trans z0
   replace z1 := (cellB hb2 (by omega)).trans z1
   replace zn := (frozenB hb2 (by omega)).trans zn
   clear hf
   go_wp2_with fail
   refine (hto.out _ _ k (bthen hbw hb2) hkl HF.out.rd).mono ?_
   rintro e w3 ⟨rfl, hb3⟩
   have hz3 := hb3.size
   replace z0 := (cellB hb3 (by omega)).trans z0
   replace z1 := (cellB hb3 (by omega)).trans z1
   replace zn := (frozenB hb3 (by omega)).trans zn
   have hb23 : Below wr.heap.size wr w3 := bthen hb2 hb3
   cases hp : p (digL s k ar)
   ·have HNO := Lib.hid (relL_no hp)
    clear hp
    go_wp2_with fail
    go_roundw
    case rel => exact ⟨k + 1, _, by omega, by go_num, by rw [← HNO.out]; exact (HBv.out.below hb23 (Nat.le_refl _)).mono (by omega), z1, z0, zn, hbe.trans (hb23.mono (by omega)), by omega⟩
    case measure => simp [intOf]; omega
   ·have HYES := Lib.hid (relL_yes hp)
    have HF3 := Lib.hid (HF.out.below hb3)
    clear hp
    go_wp2_with (refine wpList_push (E := intsT) _ rfl _ _ 41 50 rfl elInt64SS rfl (HBv.out.below (hb23.alloc hb23.size _) (Nat.le_refl _)) rfl news1 (HF3.out.below bA) (by omega) (by decide) hse (by first | (simp; done) | (simp; omega)) ?_; intro v5 w5 hB5 hg5 _; obtain ⟨a5, n5, c5, rfl⟩ := ex_slice (hB5.fr (by rw [List.length_append]; unfold capMax; simp only [List.length_singleton]; omega)); have hb5 : Below (w.heap.size + 2) w3 w5 := ((Below.refl _ w3).alloc (by omega) _).grown hg5 (by first | (simp; done) | (simp; omega)) (fun q hq => HBv.out.own hq); have i1 := (cellB hb5 (by omega)).trans z1; have i0 := (cellB hb5 (by omega)).trans z0; have i2 := (frozenB hb5 (by omega)).trans zn)
    have hz5 := hb5.size
    rw [HYES.out] at hB5
    have HB5 := Lib.hid hB5
    clear hB5 hg5
    go_wp2_with fail
    go_roundw
    case rel => exact ⟨k + 1, _, by omega, by go_num, by rw [size_set]; exact HB5.out.sameB (fun q hq1 hq2 => Below.heap_setCell _ _ _ _ (by simp; omega)), World.cell?_setCell_same _ _ _ i1, (World.cell?_setCell_other _ _ _ _ (by simp)).trans i0, (World.frozen?_setCell _ _ _ _).trans i2, (hbe.trans ((hb23.mono (by omega)).trans (hb5.mono (by omega)))).setCell (by simp) _, by rw [size_set]; omega⟩
    case measure => simp [intOf]; omega
  ·obtain rfl : k = N := by omega
   have HFO := Lib.hid (HBv.out.fr (by unfold capMax; omega))
   replace r0 := (cellB hbe (by omega)).trans r0
   replace r1 := (cellB hbe (by omega)).trans r1
   replace m0 := (frozenB hbe (by omega)).trans m0
   replace m1 := (frozenB hbe (by omega)).trans m1
   obtain ⟨q0, q1⟩ := set2_cells (x := .int .i64 (ar : Int)) (y := .slice av0 nv0 cv0) r0 r1
   have hl1 : w.heap.size + 1 < wr.heap.size := by omega
   go_wp2_with fail
   refine bodyPost_ret (v := .agg #[.int .i64 (ar : Int), .slice av0 nv0 cv0]) (by simp [results, Tryz.results48, go_sem, q0, q1]) rfl ⟨[.int .i64 (ar : Int), .slice av0 nv0 cv0], rfl, ?_, ?_⟩
   ·exact (fr_cons (I64.small (by omega) (by omega)) (fr_set2 HFO.out (by omega))).mono (by omega)
   ·exact (hbw.setCell (by simp) _).setCell (by simp) _
end Go.Proofs.YtmnjlhcbabhhlaaGreat
namespace Go.Proofs.YtmnjlhcbabhhlaaGreat
open Go.RowKit Go.Sort
theorem dig_idx {s idx : Int} {n : Nat} (hs : 1 ≤ s) (h0 : 0 ≤ idx) (h : idx < s ^ n) : ∀ k, k ≤ n → idxL s 0 ((digL s idx n).take k) = idx / s ^ (n - k)
 | 0, _ => by
  rw [List.take_zero, Nat.sub_zero, Int.ediv_eq_zero_of_lt h0 h]
  rfl
 | k + 1, hk => by
  have hl : k < (digL s idx n).length := by rw [digL_len]; omega
  rw [idxL_take hl, dig_idx hs h0 h k (by omega)]
  have hg : (digL s idx n)[k] = dig s idx (n - 1 - k) := by simp [digL]
  rw [hg, show n - k = (n - (k + 1)) + 1 by omega, show n - 1 - k = n - (k + 1) by omega, ← quo_succ hs]
  unfold dig
  have h1 := Int.ediv_mul_add_emod (idx / s ^ (n - (k + 1))) s
  exact h1
theorem digL_in {s idx : Int} {n : Nat} (hs : 1 ≤ s) : ∀ a ∈ digL s idx n, 0 ≤ a ∧ a ≤ s - 1 := fun a ha => by
 obtain ⟨i, -, rfl⟩ := List.mem_map.1 ha
 have := dig_nn (idx := idx) hs (n - 1 - i)
 omega
theorem idx_mono {s : Int} (hs : 1 ≤ s) : ∀ {xs ys : List Int} {a b : Int}, xs.length = ys.length → (∀ x ∈ xs, 0 ≤ x ∧ x ≤ s - 1) → (∀ y ∈ ys, 0 ≤ y ∧ y ≤ s - 1) → a < b → idxL s a xs < idxL s b ys
 | [], [], _, _, _, _, _, h => h
 | [], _ :: _, _, _, hl, _, _, _ => by simp at hl
 | _ :: _, [], _, _, hl, _, _, _ => by simp at hl
 | x :: xs, y :: ys, a, b, hl, hx, hy, h => by
  simp only [idxL]
  refine idx_mono hs (by simpa using hl) (fun z hz => hx z (List.mem_cons_of_mem _ hz)) (fun z hz => hy z (List.mem_cons_of_mem _ hz)) ?_
  have h1 := hx x (List.mem_cons_self ..)
  have h2 := hy y (List.mem_cons_self ..)
  have h3 := Int.mul_le_mul_of_nonneg_right (show a + 1 ≤ b by omega) (show (0 : Int) ≤ s by omega)
  rw [Int.add_mul, Int.one_mul] at h3
  omega
theorem lt_of_idx {s : Int} (hs : 1 ≤ s) : ∀ {xs ys : List Int} {a : Int}, xs.length = ys.length → (∀ x ∈ xs, 0 ≤ x ∧ x ≤ s - 1) → (∀ y ∈ ys, 0 ≤ y ∧ y ≤ s - 1) → idxL s a xs < idxL s a ys → ltL xs ys
 | [], [], _, _, _, _, h => absurd h (Int.lt_irrefl _)
 | [], _ :: _, _, hl, _, _, _ => by simp at hl
 | _ :: _, [], _, hl, _, _, _ => by simp at hl
 | x :: xs, y :: ys, a, hl, hx, hy, h => by
  simp only [idxL] at h
  have hx' := fun z hz => hx z (List.mem_cons_of_mem x hz)
  have hy' := fun z hz => hy z (List.mem_cons_of_mem y hz)
  unfold ltL
  rcases Int.lt_trichotomy x y with hc | hc | hc
  ·rw [cmpL, if_neg (by omega), cmpI_lt hc]
   decide
  ·subst hc
   rw [cmpL, if_pos rfl]
   exact lt_of_idx hs (by simpa using hl) hx' hy' h
  ·have := idx_mono hs (a := a * s + y) (b := a * s + x) (show ys.length = xs.length by simpa using hl.symm) hy' hx' (by omega)
   omega
theorem dig_lt {s : Int} {n : Nat} {k j : Int} (hs : 1 ≤ s) (h0 : 0 ≤ k) (h : k < j) (hj : j < s ^ n) : ltL (digL s k n) (digL s j n) := by
 refine lt_of_idx hs (a := 0) (by rw [digL_len, digL_len]) (digL_in hs) (digL_in hs) ?_
 have h1 := dig_idx (n := n) hs h0 (by omega) n (Nat.le_refl _)
 have h2 := dig_idx (n := n) hs (show 0 ≤ j by omega) hj n (Nat.le_refl _)
 rw [Nat.sub_self, Int.pow_zero, Int.ediv_one, List.take_of_length_le (by rw [digL_len]; exact Nat.le_refl _)] at h1 h2
 rw [h1, h2]
 exact h
theorem relL_sorted {s : Int} {n N : Nat} {p : List Int → Bool} (hs : 1 ≤ s) (hN : s ^ n = N) : sortedL (relL s n p N) := by
 have h1 : ((List.range N).map fun i : Nat => digL s i n).Pairwise ltL := by
  rw [List.pairwise_map]
  refine List.Pairwise.imp_of_mem ?_ (List.pairwise_lt_range (n := N))
  intro a b _ hb hab
  have : b < N := by simpa using hb
  exact dig_lt hs (by omega) (by omega) (by omega)
 have h2 := h1.filter p
 intro i hi h0
 exact (List.pairwise_iff_getElem.1 h2) (i - 1) i (by unfold relL at hi; omega) hi (by omega)
/-- what is in such a relation -/
theorem relL_mem {s : Int} {n N : Nat} {p : List Int → Bool} {k : Nat} (hk : k < N) : tb (digL s k n ∈ relL s n p N) = p (digL s k n) := by
 cases h : p (digL s k n)
 ·refine tb_false fun hm => ?_
  have := (List.mem_filter.1 hm).2
  rw [h] at this
  cases this
 ·exact tb_true (List.mem_filter.2 ⟨List.mem_map.2 ⟨k, by simpa using hk, rfl⟩, h⟩)
theorem idx_of_lt {s : Int} (hs : 1 ≤ s) : ∀ {xs ys : List Int} {a : Int}, xs.length = ys.length → (∀ x ∈ xs, 0 ≤ x ∧ x ≤ s - 1) → (∀ y ∈ ys, 0 ≤ y ∧ y ≤ s - 1) → ltL xs ys → idxL s a xs < idxL s a ys
 | [], [], _, _, _, _, h => by simp [ltL, cmpL] at h
 | [], _ :: _, _, hl, _, _, _ => by simp at hl
 | _ :: _, [], _, hl, _, _, _ => by simp at hl
 | x :: xs, y :: ys, a, hl, hx, hy, h => by
  simp only [idxL]
  have hx' := fun z hz => hx z (List.mem_cons_of_mem x hz)
  have hy' := fun z hz => hy z (List.mem_cons_of_mem y hz)
  unfold ltL at h
  rcases Int.lt_trichotomy x y with hc | hc | hc
  ·exact idx_mono hs (by simpa using hl) hx' hy' (by omega)
  ·subst hc
   rw [cmpL, if_pos rfl] at h
   exact idx_of_lt hs (by simpa using hl) hx' hy' h
  ·rw [cmpL, if_neg (by omega), cmpI_gt hc] at h
   omega
theorem rel_bd {s : Int} {r : Int × List (List Int)} (h : relOk s r) : r.2.length ≤ 256 ∧ ∀ y ∈ r.2, y.length ≤ 4 := by
 obtain ⟨⟨h1, h2⟩, ⟨h3, h4⟩, h5⟩ := h
 refine ⟨?_, fun y hy => ?_⟩
 ·have key : ∀ i (hi : i < r.2.length), (i : Int) ≤ idxL s 0 r.2[i] := by
   intro i
   induction i with
   | zero =>
    intro hi
    obtain ⟨⟨e1, e2⟩, -⟩ := h5 0 hi
    have := idx_bd h1 e2 _ (Nat.le_refl _)
    rw [List.take_length] at this
    omega
   | succ i ih =>
    intro hi
    have h6 := ih (by omega)
    obtain ⟨⟨e1, e2⟩, e3⟩ := h5 (i + 1) hi
    obtain ⟨⟨d1, d2⟩, -⟩ := h5 i (by omega)
    have := idx_of_lt h1 (a := 0) (by omega) d2 e2 (e3 (by omega))
    omega
  rcases Nat.eq_zero_or_pos r.2.length with h0 | h0
  ·omega
  ·have hi : r.2.length - 1 < r.2.length := by omega
   have h6 := key _ hi
   obtain ⟨⟨e1, e2⟩, -⟩ := h5 _ hi
   have h7 := idx_bd h1 e2 _ (Nat.le_refl _)
   rw [List.take_length] at h7
   have h8 := pow_mono' (s := s) (c := 4) (by omega) (by omega) (r.2[r.2.length - 1]).length
   have h9 : (4 : Int) ^ (r.2[r.2.length - 1]).length ≤ 256 := by
    generalize (r.2[r.2.length - 1]).length = m at e1 ⊢
    rcases (show m = 0 ∨ m = 1 ∨ m = 2 ∨ m = 3 ∨ m = 4 by omega) with e | e | e | e | e <;> rw [e] <;> decide
   omega
 ·obtain ⟨i, hi, rfl⟩ := List.mem_iff_getElem.1 hy
  obtain ⟨⟨e1, -⟩, -⟩ := h5 i hi
  omega
end Go.Proofs.YtmnjlhcbabhhlaaGreat
namespace Go.Proofs.YtmnjlhcbabhhlaaGreat
open Go.RowKit Go.Sort
theorem dig_of {s : Int} {ar : Nat} (hs : 1 ≤ s) {xs : List Int} (hl : xs.length = ar) (hx : ∀ a ∈ xs, 0 ≤ a ∧ a ≤ s - 1) : digL s (idxL s 0 xs) ar = xs := by
 have hb := idx_lt hs hl hx
 refine idxL_inj hs ar digL_len hl (digL_in hs) hx ?_
 have h1 := dig_idx (n := ar) hs hb.1 (by omega) ar (Nat.le_refl _)
 rw [Nat.sub_self, Int.pow_zero, Int.ediv_one, List.take_of_length_le (by rw [digL_len]; exact Nat.le_refl _)] at h1
 exact h1
end Go.Proofs.YtmnjlhcbabhhlaaGreat
namespace Go.Proofs.YtmnjlhcbabhhlaaGreat
open Go.RowKit Go.Sort
def Ty.byte : Ty Int where
 sz := 1
 rd := fun _ cs n fp => cs = [.int .u8 n] ∧ (0 ≤ n ∧ n ≤ 255) ∧ fp = []
 len := by rintro _ _ _ _ ⟨rfl, _, _⟩; rfl
 same := fun h _ => h
 lt := by rintro _ _ _ _ ⟨rfl, _, rfl⟩ k hk; cases hk
 one := by rintro _ _ _ _ ⟨rfl, _, _⟩ u hu; simp at hu; subst hu; rfl
abbrev bytesT := Ty.slice Ty.byte
theorem bytes_ex {w : World} {cs : List Value} {xs : List Int} (h : bytesT.Rd w cs xs) :
  ∃ ad cap, cs = [.slice ad xs.length cap] ∧ xs.length ≤ cap ∧ xs.length ≤ 140737488351232 ∧
   (0 < xs.length → ∃ b o, ad = some ⟨b, o, none⟩ ∧ b < w.heap.size ∧ ∀ i (h : i < xs.length), (0 ≤ xs[i] ∧ xs[i] ≤ 255) ∧ w.cell? ⟨b, o + i, none⟩ = some (.int .u8 xs[i])) := by
 obtain ⟨ad, cap, h1, h2, h3, h4⟩ := Ty.slice_ex h
 refine ⟨ad, cap, h1, h2, h3, fun hp => ?_⟩
 obtain ⟨b, o, h5, h6, h7⟩ := h4 hp
 refine ⟨b, o, h5, h6, fun i hi => ?_⟩
 obtain ⟨cs, ⟨fp, rfl, h8, h9⟩, h10⟩ := h7 i hi
 exact ⟨h8, by simpa [Ty.byte] using h10 0 (by simp)⟩
/-- a source of choices at block sb, whose bytes lie below block B, read at most K times -/
def SrcR (sb B : Nat) (K : Int) (w : World) : Prop :=
 ∃ (v : Value) (code : List Int) (pos sd : Int), w.cell? ⟨sb, 0, none⟩ = some v ∧ bytesT.RdP (fun q => q < B) w [v] code ∧ w.cell? ⟨sb, 1, none⟩ = some (.int .i64 pos) ∧ 0 ≤ pos ∧ pos ≤ K ∧
  w.cell? ⟨sb, 2, none⟩ = some (.int .u64 sd) ∧ 0 ≤ sd ∧ sd ≤ 18446744073709551615 ∧ w.frozen? ⟨sb, 1, none⟩ = false ∧ w.frozen? ⟨sb, 2, none⟩ = false ∧ B ≤ sb
theorem SrcR.lt {sb B : Nat} {K : Int} {w : World} (h : SrcR sb B K w) : sb < w.heap.size := let ⟨_, _, _, _, h, _⟩ := h; cell_lt h
theorem SrcR.mono {sb B : Nat} {K K' : Int} {w : World} (h : SrcR sb B K w) (hk : K ≤ K') : SrcR sb B K' w :=
 let ⟨v, c, p, s, h1, h2, h3, h4, h5, h6⟩ := h; ⟨v, c, p, s, h1, h2, h3, h4, Int.le_trans h5 hk, h6⟩
theorem SrcR.tch {sb B : Nat} {K : Int} {w w' : World} {O : Nat → Prop} (h : SrcR sb B K w) (ht : TchP O w w') (hs : ¬ O sb) (hO : ∀ q, q < B → ¬ O q) : SrcR sb B K w' := by
 have hl := h.lt
 obtain ⟨v, c, p, s, h1, h2, h3, h4, h5, h6, h7, h8, h9, h10, h11⟩ := h
 exact ⟨v, c, p, s, (ht.cell hl hs).trans h1, h2.tchP ht (fun q _ hq => hO q hq), (ht.cell hl hs).trans h3, h4, h5, (ht.cell hl hs).trans h6, h7, h8, (ht.frozen hl hs).trans h9, (ht.frozen hl hs).trans h10, h11⟩
theorem SrcR.below {sb B : Nat} {K : Int} {w w' : World} (h : SrcR sb B K w) (hb : Below w.heap.size w w') : SrcR sb B K w' := h.tch (TchP.of_below hb (fun _ => False)) (fun h => h) (fun _ _ h => h)
theorem wrapU (n : Int) : 0 ≤ IntKind.u64.wrap n ∧ IntKind.u64.wrap n ≤ 18446744073709551615 := by
 have h : IntKind.u64.wrap n = n % 18446744073709551616 := by simp [IntKind.wrap, IntKind.signed, IntKind.bits]
 rw [h]
 omega
theorem andB (n : Int) (h0 : 0 ≤ n) (h1 : n ≤ 18446744073709551615) : 0 ≤ wrap64 (bits BinOp.and IntKind.u64 n 255) ∧ wrap64 (bits BinOp.and IntKind.u64 n 255) ≤ 255 := by
 have h := u64_and n 255 h0 (by omega) (by omega) (by omega)
 have h2 : n.toNat &&& (255 : Int).toNat ≤ 255 := Nat.and_le_right
 rw [h]
 rw [wrap64_id (by omega) (by omega)]
 omega
/-- a number between two bounds comes back, the source has been read -/
def NxS (sb B : Nat) (K lo hi : Int) (w : World) (e : Ending) (w' : World) : Prop := ∃ x, e = .returned (.int .i64 x) ∧ lo ≤ x ∧ x ≤ hi ∧ SrcR sb B K w' ∧ TchP (fun q => q = sb) w w'
set_option maxHeartbeats 3200000 in
set_option maxRecDepth 100000 in
theorem next_any' (w : World) {sb B : Nat} {K : Int} (h : SrcR sb B K w) (hK0 : 0 ≤ K) (hK : K ≤ 1000000000) : Calls Tryz.prog 71 #[.pointer (some ⟨sb, 0, none⟩)] w (NxS sb B (K + 1) 0 255 w) := by
 have hl := h.lt
 obtain ⟨v, code, pos, sd, h1, h2, h3, h4, h5, h6, h7, h8, h9, h10, h11⟩ := h
 have H2 := Lib.hid h2
 obtain ⟨ad, cap, hv, hle, hle2, hc⟩ := bytes_ex h2.rd
 obtain rfl : v = _ := by simpa using hv
 clear h2 hv
 obtain ⟨p, rfl⟩ : ∃ p : Nat, pos = p := ⟨pos.toNat, by omega⟩
 go_enter Tryz.func71, Tryz.ntmps71
 go_wp2_with fail
 by_cases hp : p < code.length
 ·obtain ⟨b, o, rfl, hb, hce⟩ := hc (by omega)
  obtain ⟨hr, hcb⟩ := hce p hp
  generalize code[p] = x at *
  have hcv : IntKind.i64.wrap x = x := wrap_small (by omega) (by omega)
  clear hce
  go_quiet (fail)
  go_wp2_with fail
  go_quiet (fail)
  go_upto_region 6 with fail
  generalize hS : IntKind.u64.wrap (IntKind.u64.wrap (IntKind.u64.wrap (sd * 6364136223846793005) + x) + 1442695040888963407) = S
  have hS0 : 0 ≤ S ∧ S ≤ 18446744073709551615 := hS ▸ wrapU _
  generalize hW : World.setCell (World.setCell (World.drewN w _) _ _) _ _ = w3
  have c0 : w3.cell? ⟨sb, 0, none⟩ = some (.slice (some ⟨b, o, none⟩) code.length cap) := by rw [← hW]; exact (World.cell?_setCell_other _ _ _ _ (by simp)).trans ((World.cell?_setCell_other _ _ _ _ (by simp)).trans (((Quiet.drewN w _).below.cell hl).trans h1))
  have c1 : w3.cell? ⟨sb, 1, none⟩ = some (.int .i64 ((p : Int) + 1)) := by rw [← hW]; exact (World.cell?_setCell_other _ _ _ _ (by simp)).trans (World.cell?_setCell_same _ _ _ (((Quiet.drewN w _).below.cell hl).trans h3))
  have c2 : w3.cell? ⟨sb, 2, none⟩ = some (.int .u64 S) := by rw [← hW]; exact World.cell?_setCell_same _ _ _ ((World.cell?_setCell_other _ _ _ _ (by simp)).trans (((Quiet.drewN w _).below.cell hl).trans h6))
  have m1 : w3.frozen? ⟨sb, 1, none⟩ = false := by rw [← hW]; exact (World.frozen?_setCell _ _ _ _).trans ((World.frozen?_setCell _ _ _ _).trans (((Quiet.drewN w _).below.frozen hl).trans h9))
  have m2 : w3.frozen? ⟨sb, 2, none⟩ = false := by rw [← hW]; exact (World.frozen?_setCell _ _ _ _).trans ((World.frozen?_setCell _ _ _ _).trans (((Quiet.drewN w _).below.frozen hl).trans h10))
  have ht : TchP (fun q => q = sb) w w3 := hW ▸ (TchP.of_below (Quiet.drewN w _).below (fun q => q = sb)).then ((TchP.set (O := fun q => q = sb) rfl).then (TchP.set (O := fun q => q = sb) rfl) (fun q _ h => h)) (fun q _ h => h)
  have HT := Lib.hid ht
  have H3 := Lib.hid (H2.out.tchP ht (fun q _ h e => by omega))
  have hl3 : sb < w3.heap.size := cell_lt c0
  clear hW hS h1 h3 h6 h9 h10 H2 ht
  have HF : Hid (∀ n, SrcR sb B (K + 1) (w3.drewN n) ∧ TchP (fun q => q = sb) w (w3.drewN n)) := fun n => by
   have h : SrcR sb B (K + 1) w3 := ⟨_, code, _, _, c0, H3.out, c1, by omega, by omega, c2, hS0.1, hS0.2, m1, m2, h11⟩
   exact ⟨h.below (Quiet.drewN w3 n).below, HT.out.then (TchP.of_below (Quiet.drewN w3 n).below (fun q => q = sb)) (fun q _ h => h)⟩
  go_wp2_with fail
  go_quiet (fail)
  go_wp2_with fail
  go_ret
  exact ⟨x, rfl, hr.1, hr.2, (HF.out _).1, (HF.out _).2⟩
 ·clear hc
  go_quiet (fail)
  go_upto_region 6 with fail
  generalize hS : IntKind.u64.wrap (IntKind.u64.wrap (IntKind.u64.wrap (sd * 6364136223846793005)) + 1442695040888963407) = S
  have hS0 : 0 ≤ S ∧ S ≤ 18446744073709551615 := hS ▸ wrapU _
  generalize hW : World.setCell (World.setCell (World.drewN w _) _ _) _ _ = w3
  have c0 : w3.cell? ⟨sb, 0, none⟩ = some (.slice ad code.length cap) := by rw [← hW]; exact (World.cell?_setCell_other _ _ _ _ (by simp)).trans ((World.cell?_setCell_other _ _ _ _ (by simp)).trans (((Quiet.drewN w _).below.cell hl).trans h1))
  have c1 : w3.cell? ⟨sb, 1, none⟩ = some (.int .i64 ((p : Int) + 1)) := by rw [← hW]; exact (World.cell?_setCell_other _ _ _ _ (by simp)).trans (World.cell?_setCell_same _ _ _ (((Quiet.drewN w _).below.cell hl).trans h3))
  have c2 : w3.cell? ⟨sb, 2, none⟩ = some (.int .u64 S) := by rw [← hW]; exact World.cell?_setCell_same _ _ _ ((World.cell?_setCell_other _ _ _ _ (by simp)).trans (((Quiet.drewN w _).below.cell hl).trans h6))
  have m1 : w3.frozen? ⟨sb, 1, none⟩ = false := by rw [← hW]; exact (World.frozen?_setCell _ _ _ _).trans ((World.frozen?_setCell _ _ _ _).trans (((Quiet.drewN w _).below.frozen hl).trans h9))
  have m2 : w3.frozen? ⟨sb, 2, none⟩ = false := by rw [← hW]; exact (World.frozen?_setCell _ _ _ _).trans ((World.frozen?_setCell _ _ _ _).trans (((Quiet.drewN w _).below.frozen hl).trans h10))
  have ht : TchP (fun q => q = sb) w w3 := hW ▸ (TchP.of_below (Quiet.drewN w _).below (fun q => q = sb)).then ((TchP.set (O := fun q => q = sb) rfl).then (TchP.set (O := fun q => q = sb) rfl) (fun q _ h => h)) (fun q _ h => h)
  have HT := Lib.hid ht
  have H3 := Lib.hid (H2.out.tchP ht (fun q _ h e => by omega))
  have hl3 : sb < w3.heap.size := cell_lt c0
  clear hW hS h1 h3 h6 h9 h10 H2 ht
  have HF : Hid (∀ n, SrcR sb B (K + 1) (w3.drewN n) ∧ TchP (fun q => q = sb) w (w3.drewN n)) := fun n => by
   have h : SrcR sb B (K + 1) w3 := ⟨_, code, _, _, c0, H3.out, c1, by omega, by omega, c2, hS0.1, hS0.2, m1, m2, h11⟩
   exact ⟨h.below (Quiet.drewN w3 n).below, HT.out.then (TchP.of_below (Quiet.drewN w3 n).below (fun q => q = sb)) (fun q _ h => h)⟩
  go_wp2_with fail
  go_quiet (fail)
  go_wp2_with fail
  have hb := andB (S / 1099511627776) (by omega) (by omega)
  go_ret
  exact ⟨_, rfl, hb.1, hb.2, (HF.out _).1, (HF.out _).2⟩
set_option maxHeartbeats 1600000 in
set_option maxRecDepth 100000 in
theorem pick_any (w : World) {sb B : Nat} {K n : Int} (h : SrcR sb B K w) (hK0 : 0 ≤ K) (hK : K ≤ 1000000000) (hn : 1 ≤ n ∧ n ≤ 200) : Calls Tryz.prog 39 #[.pointer (some ⟨sb, 0, none⟩), .int .i64 n] w (NxS sb B (K + 1) 0 (n - 1) w) := by
 have H := Lib.hid h
 clear h
 rcases ilt 1 n with h1 | h1
 ·have h2 : ¬ n ≤ 1 := by omega
  have h3 : ¬ 200 < n := by omega
  go_enter Tryz.func39, Tryz.ntmps39
  go_wp2_with fail
  refine (next_any' w H.out hK0 hK).mono ?_
  rintro e w1 ⟨x, rfl, hx0, hx1, hs, ht⟩
  have HS := Lib.hid hs
  have HT := Lib.hid ht
  clear hs ht
  go_wp2_with fail
  go_ret
  refine ⟨_, rfl, ?_, ?_, HS.out, HT.out⟩
  ·first | exact Int.emod_nonneg _ (by omega) | exact Int.tmod_nonneg _ (by omega)
  ·have := Int.emod_lt_of_pos x (show 0 < n by omega)
   have h5 : Int.tmod x n = x % n := Int.tmod_eq_emod_of_nonneg (by omega)
   first | omega | (rw [h5]; omega)
 ·obtain rfl : n = 1 := by omega
  go_enter Tryz.func39, Tryz.ntmps39
  go_wp2_with fail
  go_ret
  exact ⟨0, rfl, by omega, by omega, H.out.mono (by omega), TchP.refl _ _⟩
/-- yes or no comes back, the source has been read -/
def OnS (sb B : Nat) (K : Int) (w : World) (e : Ending) (w' : World) : Prop := ∃ b, e = .returned (.bool b) ∧ SrcR sb B K w' ∧ TchP (fun q => q = sb) w w'
theorem one_any (w : World) {sb B : Nat} {K n : Int} (h : SrcR sb B K w) (hK0 : 0 ≤ K) (hK : K ≤ 1000000000) (hn : 1 ≤ n ∧ n ≤ 200) : Calls Tryz.prog 37 #[.pointer (some ⟨sb, 0, none⟩), .int .i64 n] w (OnS sb B (K + 1) w) := by
 have H := Lib.hid h
 clear h
 go_enter Tryz.func37, Tryz.ntmps37
 go_wp2_with fail
 refine (pick_any w H.out hK0 hK hn).mono ?_
 rintro e w1 ⟨x, rfl, hx0, hx1, hs, ht⟩
 have HS := Lib.hid hs
 have HT := Lib.hid ht
 clear hs ht
 go_wp2_with fail
 go_ret
 exact ⟨_, rfl, HS.out, HT.out⟩
set_option maxRecDepth 100000 in
theorem among_any (w : World) {sb B : Nat} {K : Int} {v : Value} {xs : List Int} (h : SrcR sb B K w) (hK0 : 0 ≤ K) (hK : K ≤ 1000000000) (hv : intsT.Rd w [v] xs) (hn : 1 ≤ xs.length ∧ xs.length ≤ 200) (hp : intsT.RdP (fun q => q ≠ sb) w [v] xs) :
  Calls Tryz.prog 68 #[.pointer (some ⟨sb, 0, none⟩), v] w fun e w' => ∃ x, x ∈ xs ∧ e = .returned (.int .i64 x) ∧ SrcR sb B (K + 1) w' ∧ TchP (fun q => q = sb) w w' := by
 have H := Lib.hid h
 obtain ⟨ad, cap, rfl⟩ := rd_slice hv
 have HP := Lib.hid hp
 clear h hv hp
 go_enter Tryz.func68, Tryz.ntmps68
 go_wp2_with fail
 refine (pick_any w H.out hK0 hK (n := (xs.length : Int)) (by omega)).mono ?_
 rintro e w1 ⟨x, rfl, hx0, hx1, hs, ht⟩
 obtain ⟨j, rfl⟩ : ∃ j : Nat, x = j := ⟨x.toNat, by omega⟩
 have hj : j < xs.length := by omega
 obtain ⟨_, _, hv, -, -, hc⟩ := ints_ex (HP.out.tchP ht (fun q _ h e => h e)).rd
 simp only [List.cons.injEq, Value.slice.injEq, and_true, true_and] at hv
 obtain ⟨rfl, rfl⟩ := hv
 obtain ⟨b, o, rfl, hb, hce⟩ := hc (by omega)
 have c0 := (hce j hj).2
 have HM : Hid (xs[j] ∈ xs) := List.getElem_mem hj
 generalize xs[j] = y at *
 have HS := Lib.hid hs
 have HT := Lib.hid ht
 clear hs ht hc hce
 go_wp2_with fail
 go_ret
 exact ⟨y, HM.out, rfl, HS.out, HT.out⟩
theorem l00From_any (w : World) {v : Value} {code : List Int} (h : bytesT.Rd w [v] code) : Calls Tryz.prog 16 #[v] w fun e w' => e = .returned (.pointer (some ⟨w.heap.size, 0, none⟩)) ∧ SrcR w.heap.size w.heap.size 0 w' ∧ Below w.heap.size w w' := by
 have H : Hid (bytesT.RdP (fun q => q < w.heap.size) w [v] code) := let ⟨fp, h1⟩ := h; ⟨fp, h1, fun k hk => bytesT.lt h1 k hk⟩
 obtain ⟨ad, cap, rfl⟩ := rd_slice h
 clear h
 go_enter Tryz.func16, Tryz.ntmps16
 go_wp2_with fail
 go_ret
 have hb : Below w.heap.size w (w.alloc (.cells #[.slice ad code.length cap, .int .i64 0, .int .u64 0] 86)) := bA
 refine ⟨rfl, ⟨_, code, 0, 0, by simp [go_sem], H.out.below hb, by simp [go_sem], by omega, by omega, by simp [go_sem], by omega, by omega, by simp [go_sem], by simp [go_sem], Nat.le_refl _⟩, hb⟩
end Go.Proofs.YtmnjlhcbabhhlaaGreat
namespace Go.Proofs.YtmnjlhcbabhhlaaGreat
open Go.RowKit Go.Sort
/-- tuples of some numbers below k, in order -/
def DrW (s : Int) (n k : Nat) (R : List (List Int)) : Prop := ∃ J : List Nat, R = J.map (fun i : Nat => digL s i n) ∧ J.Pairwise (· < ·) ∧ (∀ j ∈ J, j < k) ∧ J.length ≤ k
section
variable {s : Int} {n k : Nat} {R : List (List Int)}
theorem DrW.zero : DrW s n 0 [] := ⟨[], rfl, List.Pairwise.nil, by simp, Nat.zero_le _⟩
theorem DrW.no (h : DrW s n k R) : DrW s n (k + 1) R := let ⟨J, h1, h2, h3, h4⟩ := h; ⟨J, h1, h2, fun j hj => Nat.lt_succ_of_lt (h3 j hj), Nat.le_succ_of_le h4⟩
theorem DrW.yes (h : DrW s n k R) : DrW s n (k + 1) (R ++ [digL s k n]) := by
 obtain ⟨J, rfl, h2, h3, h4⟩ := h
 refine ⟨J ++ [k], by simp, List.pairwise_append.2 ⟨h2, List.pairwise_singleton _ _, fun a ha b hb => ?_⟩, fun j hj => ?_, by simp; omega⟩
 ·rw [List.mem_singleton.1 hb]; exact h3 a ha
 ·rcases List.mem_append.1 hj with hj | hj
  ·exact Nat.lt_succ_of_lt (h3 j hj)
  ·rw [List.mem_singleton.1 hj]; exact Nat.lt_succ_self _
theorem DrW.len (h : DrW s n k R) : R.length ≤ k := by obtain ⟨J, rfl, -, -, h4⟩ := h; simpa using h4
theorem DrW.ok (h : DrW s n k R) (hs : sizeOk s) (hn : 1 ≤ n ∧ n ≤ 4) (hk : (k : Int) ≤ s ^ n) : relOk s ((n : Int), R) := by
 obtain ⟨J, rfl, h2, h3, -⟩ := h
 have hs' := hs
 unfold sizeOk at hs'
 refine ⟨hs, ⟨by show (1 : Int) ≤ n; omega, by show (n : Int) ≤ 4; omega⟩, fun i hi => ?_⟩
 have hi' : i < J.length := by simpa using hi
 refine ⟨⟨by simp [digL_len], fun a ha => ?_⟩, fun h0 => ?_⟩
 ·have : a ∈ digL s ((J[i] : Nat) : Int) n := by simpa using ha
  exact digL_in (by omega) a this
 ·have h5 := (List.pairwise_iff_getElem.1 h2) (i - 1) i (by omega) hi' (by omega)
  have h6 := h3 _ (List.getElem_mem hi')
  show ltL ((J.map fun i : Nat => digL s i n)[i - 1]'(by simp; omega)) ((J.map fun i : Nat => digL s i n)[i]'hi)
  rw [List.getElem_map, List.getElem_map]
  exact dig_lt (by omega) (by omega) (by omega) (by omega)
end
theorem srcB {sb B C : Nat} {K : Int} {w w' : World} (h : SrcR sb B K w) (hc : sb < C) (hb : Below C w w') : SrcR sb B K w' := by
 have hl := h.lt
 have hB : B ≤ sb := let ⟨_, _, _, _, _, _, _, _, _, _, _, _, _, _, h⟩ := h; h
 exact h.tch (O := fun q => C ≤ q) ⟨hb.os, hb.tape, hb.output, hb.size, fun k _ hn => hb.block k (Nat.lt_of_not_le hn)⟩ (by omega) (fun q hq => by omega)
theorem tchB {sb : Nat} {W w w' : World} (h : TchP (fun q => q = sb) W w) (hb : Below (W.heap.size + 2) w w') : TchP (fun q => q = sb) W w' :=
 ⟨hb.os.trans h.os, hb.tape.trans h.tape, hb.output.trans h.output, Nat.le_trans h.size hb.size, fun k hk hn => (hb.block k (by omega)).trans (h.block k hk hn)⟩
theorem tchS {sb g i : Nat} {v : Value} {W w : World} (h : TchP (fun q => q = sb) W w) (hg : W.heap.size ≤ g) : TchP (fun q => q = sb) W (w.setCell ⟨g, i, none⟩ v) :=
 ⟨h.os, h.tape, h.output, by rw [size_set]; exact h.size, fun k hk hn => (Below.heap_setCell _ _ _ _ (fun e => by simp at e; omega)).trans (h.block k hk hn)⟩
/-- a drawn relation comes back -/
def DrR (sb B : Nat) (K s ar : Int) (w : World) (e : Ending) (w' : World) : Prop := ∃ (cs : List Value) (r : Int × List (List Int)), e = .returned (.agg cs.toArray) ∧ relT.Fr w.heap.size w' cs r ∧ relOk s r ∧ r.1 = ar ∧ SrcR sb B K w' ∧ TchP (fun q => q = sb) w w'
/-- a number and a row of the call's own come back, of which something is so; the source has turned -/
def FbR {α : Type} (E : Ty α) (e : TypeId) (Q : Int × List α → Prop) (sb B : Nat) (K : Int) (w : World) (en : Ending) (w' : World) : Prop := ∃ (v : Value) (n : Int) (T : List α) (b0 : Nat), en = .returned (.agg #[.int .i64 n, v]) ∧ I64 n ∧ w.heap.size ≤ b0 ∧ b0 ≤ w'.heap.size ∧ Bl E e b0 w'.heap.size w' v T ∧ T.length ≤ 1000000 ∧ Q (n, T) ∧ SrcR sb B K w' ∧ TchP (fun q => q = sb) w w'
theorem elSS : ElT Tryz.prog 41 50 1 24 := .mk (z := .slice none 0 0) Tryz.underlying41 (by kernel_rfl) rfl (by decide)
set_option maxHeartbeats 6400000 in
set_option maxRecDepth 100000 in
theorem l01DrawnB_any (w : World) {sb B : Nat} {K s : Int} {ar N : Nat} (h : SrcR sb B K w) (hK0 : 0 ≤ K) (hK : K ≤ 100000000) (hs : 1 ≤ s ∧ s ≤ 4) (har : 1 ≤ ar ∧ ar ≤ 4) (hN : s ^ ar = (N : Int)) :
  Calls Tryz.prog 40 #[.pointer (some ⟨sb, 0, none⟩), .int .i64 s, .int .i64 ar] w (FbR intsT 50 (fun r => relOk s r ∧ r.1 = ar) sb B (K + 1 + 2 * N) w) := by
 have H := Lib.hid h
 have hsb := h.lt
 have hBs : B ≤ sb := let ⟨_, _, _, _, _, _, _, _, _, _, _, _, _, _, h⟩ := h; h
 have hNb : N ≤ 256 := by
  have h1 := pow_mono' (s := s) (c := 4) (by omega) (by omega) ar
  rcases (show ar = 1 ∨ ar = 2 ∨ ar = 3 ∨ ar = 4 by omega) with e | e | e | e <;> subst e <;> simp at h1 <;> omega
 have HN := Lib.hid hN
 clear h hN
 go_enter Tryz.func40, Tryz.ntmps40
 go_wp2_with fail
 generalize hW : World.alloc (World.alloc w _) _ = W
 have hbW : Below w.heap.size w W := hW ▸ bAA
 have hsW : w.heap.size + 2 ≤ W.heap.size := by rw [← hW]; simp
 have r0 : W.cell? ⟨w.heap.size, 0, none⟩ = some (.int .i64 0) := by rw [← hW]; simp [go_sem]
 have r1 : W.cell? ⟨w.heap.size, 1, none⟩ = some (.slice none 0 0) := by rw [← hW]; simp [go_sem]
 have q0 : W.frozen? ⟨w.heap.size, 0, none⟩ = false := by rw [← hW]; simp [go_sem]
 have q1 : W.frozen? ⟨w.heap.size, 1, none⟩ = false := by rw [← hW]; simp [go_sem]
 have c0 : W.cell? ⟨w.heap.size + 1, 0, none⟩ = some (.int .i64 (ar : Int)) := by rw [← hW]; simp [go_sem]
 have c1 : W.cell? ⟨w.heap.size + 1, 1, none⟩ = some (.slice none 0 0) := by rw [← hW]; simp [go_sem]
 have m1 : W.frozen? ⟨w.heap.size + 1, 1, none⟩ = false := by rw [← hW]; simp [go_sem]
 have HSW := Lib.hid (H.out.below hbW)
 clear hW
 refine (pick_any W HSW.out hK0 (by omega) (n := 5) (by omega)).mono ?_
 rintro e w2 ⟨often, rfl, ho0, ho1, hs2, ht2⟩
 have hz2 := ht2.size
 replace r0 := (ht2.cell (i := 0) (show w.heap.size < W.heap.size by omega) (by omega)).trans r0
 replace r1 := (ht2.cell (i := 1) (show w.heap.size < W.heap.size by omega) (by omega)).trans r1
 replace q0 := (ht2.frozen (i := 0) (show w.heap.size < W.heap.size by omega) (by omega)).trans q0
 replace q1 := (ht2.frozen (i := 1) (show w.heap.size < W.heap.size by omega) (by omega)).trans q1
 replace c0 := (ht2.cell (i := 0) (show w.heap.size + 1 < W.heap.size by omega) (by omega)).trans c0
 replace c1 := (ht2.cell (i := 1) (show w.heap.size + 1 < W.heap.size by omega) (by omega)).trans c1
 replace m1 := (ht2.frozen (i := 1) (show w.heap.size + 1 < W.heap.size by omega) (by omega)).trans m1
 have HS2 := Lib.hid hs2
 have HT2 : Hid (TchP (fun q => q = sb) w w2) := (TchP.of_below hbW (fun q => q = sb)).then ht2 (fun q _ h => h)
 have HRQ := Lib.hid (And.intro r0 (And.intro r1 (And.intro q0 q1)))
 clear hs2 ht2 HSW r0 r1 q0 q1
 go_wp2_with (go_at_call 72; refine (l01Power_any _ s (ar : Int) (by omega) (by omega) (by omega)).mono ?_; rintro e w' ⟨rfl, rfl⟩; rw [Int.toNat_natCast, HN.out])
 go_loopw [10] (fun i wr => ∃ (k : Nat) (va : Value) (R : List (List Int)), k ≤ N ∧ i = .int .i64 k ∧ Bl intsT 50 (w.heap.size + 2) wr.heap.size wr va R ∧ DrW s ar k R ∧ wr.cell? ⟨w.heap.size + 1, 0, none⟩ = some (.int .i64 (ar : Int)) ∧ wr.cell? ⟨w.heap.size + 1, 1, none⟩ = some va ∧ wr.frozen? ⟨w.heap.size + 1, 1, none⟩ = false ∧ SrcR sb B (K + 1 + 2 * k) wr ∧ TchP (fun q => q = sb) w wr ∧ (∀ i, wr.cell? ⟨w.heap.size, i, none⟩ = w2.cell? ⟨w.heap.size, i, none⟩ ∧ wr.frozen? ⟨w.heap.size, i, none⟩ = w2.frozen? ⟨w.heap.size, i, none⟩)) (fun i _ => N - (intOf i).toNat)
 case atStart => exact ⟨0, _, _, Nat.zero_le _, rfl, Bl.nil, DrW.zero, c0, c1, m1, HS2.out.mono (by omega), HT2.out, fun i => ⟨rfl, rfl⟩⟩
 case round =>
  clear c0 c1 m1
  obtain ⟨k, va, R, hk, rfl, hBa, hdr, c0, c1, m1, hsr, htc, hrq⟩ := hrel
  have HB := Lib.hid hBa
  have HDR := Lib.hid hdr
  have HSR := Lib.hid hsr
  have HTC := Lib.hid htc
  have HRE := Lib.hid hrq
  have hRl := hdr.len
  have hw2 : w.heap.size + 1 < wr.heap.size := cell_lt c0
  obtain ⟨ga, gn, gc, rfl⟩ := ex_slice (hBa.fr (by unfold capMax; omega))
  obtain ⟨wv, rfl⟩ : ∃ wv : World, wv = wr := ⟨_, rfl⟩
  clear hBa hdr hsr htc hrq
  by_cases hkl : k < N
  ·go_wp2_with fail
   refine (pick_any wv HSR.out (by omega) (by omega) (n := 5) (by omega)).mono ?_
   rintro e w3 ⟨x, rfl, hx0, hx1, hs3, ht3⟩
   have hz3 := ht3.size
   replace c0 := (ht3.cell (i := 0) hw2 (by omega)).trans c0
   replace c1 := (ht3.cell (i := 1) hw2 (by omega)).trans c1
   replace m1 := (ht3.frozen (i := 1) hw2 (by omega)).trans m1
   have HB3 : Hid (Bl intsT 50 (w.heap.size + 2) w3.heap.size w3 (.slice ga gn gc) R) := (HB.out.sameB (fun q h1 h2 => ht3.block q h2 (by omega))).mono hz3
   have HR3 : Hid (∀ i, w3.cell? ⟨w.heap.size, i, none⟩ = w2.cell? ⟨w.heap.size, i, none⟩ ∧ w3.frozen? ⟨w.heap.size, i, none⟩ = w2.frozen? ⟨w.heap.size, i, none⟩) := fun i => ⟨(ht3.cell (by omega) (by omega)).trans (HRE.out i).1, (ht3.frozen (by omega) (by omega)).trans (HRE.out i).2⟩
   have HS3 := Lib.hid hs3
   have HT3 := Lib.hid (HTC.out.then ht3 (fun q _ h => h))
   have hw3 : w.heap.size + 1 < w3.heap.size := by omega
   clear hs3 ht3 HB HSR HTC HRE
   cases hq : decide (x ≤ often)
   ·go_wp2_with fail
    refine (one_any w3 HS3.out (by omega) (by omega) (n := 8) (by omega)).mono ?_
    rintro e w4 ⟨b, rfl, hs4, ht4⟩
    have hz4 := ht4.size
    replace c0 := (ht4.cell (i := 0) hw3 (by omega)).trans c0
    replace c1 := (ht4.cell (i := 1) hw3 (by omega)).trans c1
    replace m1 := (ht4.frozen (i := 1) hw3 (by omega)).trans m1
    have HB4 : Hid (Bl intsT 50 (w.heap.size + 2) w4.heap.size w4 (.slice ga gn gc) R) := (HB3.out.sameB (fun q h1 h2 => ht4.block q h2 (by omega))).mono hz4
    have HR4 : Hid (∀ i, w4.cell? ⟨w.heap.size, i, none⟩ = w2.cell? ⟨w.heap.size, i, none⟩ ∧ w4.frozen? ⟨w.heap.size, i, none⟩ = w2.frozen? ⟨w.heap.size, i, none⟩) := fun i => ⟨(ht4.cell (by omega) (by omega)).trans (HR3.out i).1, (ht4.frozen (by omega) (by omega)).trans (HR3.out i).2⟩
    have HS4 := Lib.hid hs4
    have HT4 := Lib.hid (HT3.out.then ht4 (fun q _ h => h))
    have hw4 : w.heap.size + 1 < w4.heap.size := by omega
    clear hs4 ht4 HB3 HS3 HT3 HR3
    cases b
    ·go_wp2_with fail
     go_roundw
     case rel => exact ⟨k + 1, _, _, by omega, by go_num, HB4.out, HDR.out.no, c0, c1, m1, HS4.out.mono (by omega), HT4.out, HR4.out⟩
     case measure => simp [intOf]; omega
    ·go_wp2_with fail
     refine wp_region_T (fun w' => w'.cell? ⟨w.heap.size + 1, 1, none⟩ = some (.slice ga gn gc)) [7] (by kernel_rfl) c1 (fun hHeld => ?_)
     refine wpAnyT_take (i := 0) (v := ?_) rfl (by kernel_rfl) (fun _ _ _ h => h) (Or.inl ⟨by rfl, ?_⟩) (by assumption) ?_
     rotate_left
     ·(intro w hSw; (try dsimp only at hSw); go_simp <;> with_reducible rfl)
     go_simp
     refine wpAnyT_take (i := 1) (v := ?_) rfl (by kernel_rfl) (fun _ _ _ h => h) (Or.inl ⟨by rfl, ?_⟩) (by assumption) ?_
     rotate_left
     ·(intro w hSw; (try dsimp only at hSw); go_simp <;> with_reducible rfl)
     go_simp
     refine wpAnyT_take (i := 2) (v := ?_) rfl (by kernel_rfl) (fun _ _ _ h => h) (Or.inl ⟨by rfl, ?_⟩) (by assumption) ?_
     rotate_left
     ·(intro w hSw; (try dsimp only at hSw); go_simp <;> with_reducible rfl)
     go_simp
     refine wpAnyT_take (i := 3) (v := ?_) rfl (by kernel_rfl) (fun _ _ _ h => h) (Or.inl ⟨by rfl, ?_⟩) (by assumption) ?_
     rotate_left
     ·(intro w hSw; (try dsimp only at hSw); go_simp <;> with_reducible rfl)
     go_simp
     refine wpAnyT_take (i := 4) (v := ?_) rfl (by kernel_rfl) (fun _ _ _ h => h) (Or.inl ⟨by rfl, ?_⟩) (by assumption) ?_
     rotate_left
     ·(intro w hSw; (try dsimp only at hSw); go_simp <;> with_reducible rfl)
     go_simp
     refine wpAnyT_one (i := 5) rfl (by kernel_rfl) (fun K hK => ?_)
     go_simp
     go_at_call 73
     refine (l01Digits_any _ s (k : Int) ar (by omega) (by omega) (by omega) (by omega) (by omega)).mono ?_
     rintro e w5 ⟨dv, rfl, hdf, hb5⟩
     obtain ⟨ad, nd, cd, rfl⟩ := ex_slice hdf
     have HDF := Lib.hid hdf
     have hb5' : Below w4.heap.size w4 w5 := bthen bD hb5
     have hz5 := hb5'.size
     replace c0 := (cellB hb5' (show w.heap.size + 1 < w4.heap.size by omega)).trans c0
     replace c1 := (cellB hb5' (show w.heap.size + 1 < w4.heap.size by omega)).trans c1
     replace m1 := (frozenB hb5' (show w.heap.size + 1 < w4.heap.size by omega)).trans m1
     clear hdf hb5
     dsimp only
     refine hK.out _ _ c1 (fun hHeld => ?_)
     clear hK K
     refine wpAnyT_one (i := 6) rfl (by kernel_rfl) (fun K hK => ?_)
     go_simp
     refine hK.out _ _ (by go_keep) (fun hHeld => ?_)
     clear hK K
     refine wpAnyT_last (i := 7) rfl (by kernel_rfl) (by kernel_rfl) (fun K hK => ?_)
     refine step_push (E := intsT) _ rfl _ _ 41 50 rfl elSS rfl (HB4.out.below (hb5'.alloc hz5 _) (Nat.le_refl _)) rfl news1 (HDF.out.below bA) (by omega) (by decide) (by omega) (by first | (simp; done) | (simp; omega)) ?_
     intro v6 w6 hB6 hg6 _
     obtain ⟨xa, xn, xc, rfl⟩ := ex_slice (hB6.fr (by rw [List.length_append]; unfold capMax; simp; omega))
     have hb6 : RowKit.Below (w.heap.size + 2) w4 w6 := ((hb5'.alloc hz5 _).mono (by omega)).grown hg6 (by first | (simp; done) | (simp; omega)) (fun q hq => HB4.out.own hq)
     have hb56 : RowKit.Below (w.heap.size + 2) w5 w6 := ((Below.refl _ w5).alloc (by omega) _).grown hg6 (by first | (simp; done) | (simp; omega)) (fun q hq => HB4.out.own hq)
     have HB6 := Lib.hid hB6
     replace c0 := (cellB hb56 (by omega)).trans c0
     replace c1 := (cellB hb56 (by omega)).trans c1
     replace m1 := (frozenB hb56 (by omega)).trans m1
     have HD6 := Lib.hid (HDR.out.yes)
     have HS6 := Lib.hid (srcB HS4.out (show sb < w.heap.size + 2 by omega) hb6)
     have HT6 := Lib.hid (tchB HT4.out hb6)
     have HR6 : Hid (∀ i, w6.cell? ⟨w.heap.size, i, none⟩ = w2.cell? ⟨w.heap.size, i, none⟩ ∧ w6.frozen? ⟨w.heap.size, i, none⟩ = w2.frozen? ⟨w.heap.size, i, none⟩) := fun i => ⟨(cellB hb6 (by omega)).trans (HR4.out i).1, (frozenB hb6 (by omega)).trans (HR4.out i).2⟩
     clear hB6 hg6 hb6 hb56
     refine hK.out _ _ ?_
     clear hK K
     refine wpAnyT_any (i := 8) (v := ?_) rfl (by kernel_rfl) (fun _ _ _ h => h) (Or.inl ⟨by rfl, ?_⟩) (by first | exact fun _ => by assumption | (intro hp; exact absurd hp (by rw [show pastB _ _ = true by kernel_rfl]; simp))) ?_
     rotate_left
     ·(intro w hSw; (try dsimp only at hSw); go_simp <;> with_reducible rfl)
     try simp only [Act.put]
     refine wpAnyT_last (i := 9) rfl (by kernel_rfl) (by kernel_rfl) (fun K hK => ?_)
     go_simp
     refine hK.out _ _ ?_
     clear hK K
     refine wpAnyT_done (by kernel_rfl) ?_ _
     go_simp
     go_wp2_with fail
     go_roundw
     case rel => exact ⟨k + 1, _, _, by omega, by go_num, by rw [size_set]; exact HB6.out.sameB (fun q h1 h2 => Below.heap_setCell _ _ _ _ (by simp; omega)), HD6.out, (World.cell?_setCell_other _ _ _ _ (by simp)).trans c0, World.cell?_setCell_same _ _ _ c1, (World.frozen?_setCell _ _ _ _).trans m1, (HS6.out.tch (TchP.set (O := fun q => q = w.heap.size + 1) rfl) (by omega) (by omega)).mono (by omega), tchS HT6.out (by omega), fun i => ⟨(World.cell?_setCell_other _ _ _ _ (by simp)).trans (HR6.out i).1, (World.frozen?_setCell _ _ _ _).trans (HR6.out i).2⟩⟩
     case measure => simp [intOf]; omega
   ·skip
    go_wp2_with fail
    refine wp_region_T (fun w' => w'.cell? ⟨w.heap.size + 1, 1, none⟩ = some (.slice ga gn gc)) [7] (by kernel_rfl) c1 (fun hHeld => ?_)
    refine wpAnyT_take (i := 0) (v := ?_) rfl (by kernel_rfl) (fun _ _ _ h => h) (Or.inl ⟨by rfl, ?_⟩) (by assumption) ?_
    rotate_left
    ·(intro w hSw; (try dsimp only at hSw); go_simp <;> with_reducible rfl)
    go_simp
    refine wpAnyT_take (i := 1) (v := ?_) rfl (by kernel_rfl) (fun _ _ _ h => h) (Or.inl ⟨by rfl, ?_⟩) (by assumption) ?_
    rotate_left
    ·(intro w hSw; (try dsimp only at hSw); go_simp <;> with_reducible rfl)
    go_simp
    refine wpAnyT_take (i := 2) (v := ?_) rfl (by kernel_rfl) (fun _ _ _ h => h) (Or.inl ⟨by rfl, ?_⟩) (by assumption) ?_
    rotate_left
    ·(intro w hSw; (try dsimp only at hSw); go_simp <;> with_reducible rfl)
    go_simp
    refine wpAnyT_take (i := 3) (v := ?_) rfl (by kernel_rfl) (fun _ _ _ h => h) (Or.inl ⟨by rfl, ?_⟩) (by assumption) ?_
    rotate_left
    ·(intro w hSw; (try dsimp only at hSw); go_simp <;> with_reducible rfl)
    go_simp
    refine wpAnyT_take (i := 4) (v := ?_) rfl (by kernel_rfl) (fun _ _ _ h => h) (Or.inl ⟨by rfl, ?_⟩) (by assumption) ?_
    rotate_left
    ·(intro w hSw; (try dsimp only at hSw); go_simp <;> with_reducible rfl)
    go_simp
    refine wpAnyT_one (i := 5) rfl (by kernel_rfl) (fun K hK => ?_)
    go_simp
    go_at_call 73
    refine (l01Digits_any _ s (k : Int) ar (by omega) (by omega) (by omega) (by omega) (by omega)).mono ?_
    rintro e w5 ⟨dv, rfl, hdf, hb5⟩
    obtain ⟨ad, nd, cd, rfl⟩ := ex_slice hdf
    have HDF := Lib.hid hdf
    have hb5' : Below w3.heap.size w3 w5 := bthen bD hb5
    have hz5 := hb5'.size
    replace c0 := (cellB hb5' (show w.heap.size + 1 < w3.heap.size by omega)).trans c0
    replace c1 := (cellB hb5' (show w.heap.size + 1 < w3.heap.size by omega)).trans c1
    replace m1 := (frozenB hb5' (show w.heap.size + 1 < w3.heap.size by omega)).trans m1
    clear hdf hb5
    dsimp only
    refine hK.out _ _ c1 (fun hHeld => ?_)
    clear hK K
    refine wpAnyT_one (i := 6) rfl (by kernel_rfl) (fun K hK => ?_)
    go_simp
    refine hK.out _ _ (by go_keep) (fun hHeld => ?_)
    clear hK K
    refine wpAnyT_last (i := 7) rfl (by kernel_rfl) (by kernel_rfl) (fun K hK => ?_)
    refine step_push (E := intsT) _ rfl _ _ 41 50 rfl elSS rfl (HB3.out.below (hb5'.alloc hz5 _) (Nat.le_refl _)) rfl news1 (HDF.out.below bA) (by omega) (by decide) (by omega) (by first | (simp; done) | (simp; omega)) ?_
    intro v6 w6 hB6 hg6 _
    obtain ⟨xa, xn, xc, rfl⟩ := ex_slice (hB6.fr (by rw [List.length_append]; unfold capMax; simp; omega))
    have hb6 : RowKit.Below (w.heap.size + 2) w3 w6 := ((hb5'.alloc hz5 _).mono (by omega)).grown hg6 (by first | (simp; done) | (simp; omega)) (fun q hq => HB3.out.own hq)
    have hb56 : RowKit.Below (w.heap.size + 2) w5 w6 := ((Below.refl _ w5).alloc (by omega) _).grown hg6 (by first | (simp; done) | (simp; omega)) (fun q hq => HB3.out.own hq)
    have HB6 := Lib.hid hB6
    replace c0 := (cellB hb56 (by omega)).trans c0
    replace c1 := (cellB hb56 (by omega)).trans c1
    replace m1 := (frozenB hb56 (by omega)).trans m1
    have HD6 := Lib.hid (HDR.out.yes)
    have HS6 := Lib.hid (srcB HS3.out (show sb < w.heap.size + 2 by omega) hb6)
    have HT6 := Lib.hid (tchB HT3.out hb6)
    have HR6 : Hid (∀ i, w6.cell? ⟨w.heap.size, i, none⟩ = w2.cell? ⟨w.heap.size, i, none⟩ ∧ w6.frozen? ⟨w.heap.size, i, none⟩ = w2.frozen? ⟨w.heap.size, i, none⟩) := fun i => ⟨(cellB hb6 (by omega)).trans (HR3.out i).1, (frozenB hb6 (by omega)).trans (HR3.out i).2⟩
    clear hB6 hg6 hb6 hb56
    refine hK.out _ _ ?_
    clear hK K
    refine wpAnyT_any (i := 8) (v := ?_) rfl (by kernel_rfl) (fun _ _ _ h => h) (Or.inl ⟨by rfl, ?_⟩) (by first | exact fun _ => by assumption | (intro hp; exact absurd hp (by rw [show pastB _ _ = true by kernel_rfl]; simp))) ?_
    rotate_left
    ·(intro w hSw; (try dsimp only at hSw); go_simp <;> with_reducible rfl)
    try simp only [Act.put]
    refine wpAnyT_last (i := 9) rfl (by kernel_rfl) (by kernel_rfl) (fun K hK => ?_)
    go_simp
    refine hK.out _ _ ?_
    clear hK K
    refine wpAnyT_done (by kernel_rfl) ?_ _
    go_simp
    go_wp2_with fail
    go_roundw
    case rel => exact ⟨k + 1, _, _, by omega, by go_num, by rw [size_set]; exact HB6.out.sameB (fun q h1 h2 => Below.heap_setCell _ _ _ _ (by simp; omega)), HD6.out, (World.cell?_setCell_other _ _ _ _ (by simp)).trans c0, World.cell?_setCell_same _ _ _ c1, (World.frozen?_setCell _ _ _ _).trans m1, (HS6.out.tch (TchP.set (O := fun q => q = w.heap.size + 1) rfl) (by omega) (by omega)).mono (by omega), tchS HT6.out (by omega), fun i => ⟨(World.cell?_setCell_other _ _ _ _ (by simp)).trans (HR6.out i).1, (World.frozen?_setCell _ _ _ _).trans (HR6.out i).2⟩⟩
    case measure => simp [intOf]; omega
  ·obtain rfl : k = N := by omega
   have r0 := (HRE.out 0).1.trans HRQ.out.1
   have r1 := (HRE.out 1).1.trans HRQ.out.2.1
   have q0 := (HRE.out 0).2.trans HRQ.out.2.2.1
   have q1 := (HRE.out 1).2.trans HRQ.out.2.2.2
   have hw0 : w.heap.size < wv.heap.size := by omega
   have HOK : Hid (relOk s ((ar : Int), R)) := HDR.out.ok (by unfold sizeOk; omega) (by omega) (by have := HN.out; omega)
   have hIa : I64 (ar : Int) := I64.small (by omega) (by omega)
   obtain ⟨g0, g1⟩ := set2_cells (x := .int .i64 (ar : Int)) (y := .slice ga gn gc) r0 r1
   have HFF : Hid (Bl intsT 50 (w.heap.size + 2) ((wv.setCell ⟨w.heap.size, 0, none⟩ (.int .i64 (ar : Int))).setCell ⟨w.heap.size, 1, none⟩ (.slice ga gn gc)).heap.size ((wv.setCell ⟨w.heap.size, 0, none⟩ (.int .i64 (ar : Int))).setCell ⟨w.heap.size, 1, none⟩ (.slice ga gn gc)) (.slice ga gn gc) R) := by
    rw [size_set, size_set]
    exact (HB.out.sameB (fun q h1 h2 => Below.heap_setCell _ _ _ _ (by simp; omega))).sameB (fun q h1 h2 => Below.heap_setCell _ _ _ _ (by simp; omega))
   have HTT : Hid (TchP (fun q => q = sb) w ((wv.setCell ⟨w.heap.size, 0, none⟩ (.int .i64 (ar : Int))).setCell ⟨w.heap.size, 1, none⟩ (.slice ga gn gc))) := tchS (tchS HTC.out (Nat.le_refl _)) (Nat.le_refl _)
   have HSS : Hid (SrcR sb B (K + 1 + 2 * (k : Int)) ((wv.setCell ⟨w.heap.size, 0, none⟩ (.int .i64 (ar : Int))).setCell ⟨w.heap.size, 1, none⟩ (.slice ga gn gc))) := ((HSR.out.tch (TchP.set (O := fun q => q = w.heap.size) rfl) (by omega) (by omega)).tch (TchP.set (O := fun q => q = w.heap.size) rfl) (by omega) (by omega)).mono (by omega)
   clear HB
   go_wp2_with fail
   refine bodyPost_ret (v := .agg #[.int .i64 (ar : Int), .slice ga gn gc]) (by simp [results, Tryz.results40, go_sem, g0, g1]) rfl ⟨.slice ga gn gc, (ar : Int), R, w.heap.size + 2, rfl, hIa, by omega, by rw [size_set, size_set]; omega, HFF.out, by omega, ⟨HOK.out, rfl⟩, HSS.out, HTT.out⟩
theorem l01DrawnN_any (w : World) {sb B : Nat} {K s : Int} {ar N : Nat} (h : SrcR sb B K w) (hK0 : 0 ≤ K) (hK : K ≤ 100000000) (hs : 1 ≤ s ∧ s ≤ 4) (har : 1 ≤ ar ∧ ar ≤ 4) (hN : s ^ ar = (N : Int)) :
  Calls Tryz.prog 40 #[.pointer (some ⟨sb, 0, none⟩), .int .i64 s, .int .i64 ar] w (DrR sb B (K + 1 + 2 * N) s ar w) :=
 (l01DrawnB_any w h hK0 hK hs har hN).mono fun e w' ⟨v, n, T, b0, h1, h2, h3, h4, h5, h6, h7, h8, h9⟩ => ⟨[.int .i64 n, v], (n, T), h1, (fr_cons h2 (h5.fr (by unfold capMax; omega))).mono h3, h7.1, h7.2, h8, h9⟩
end Go.Proofs.YtmnjlhcbabhhlaaGreat
namespace Go.Proofs.YtmnjlhcbabhhlaaGreat
open Go.RowKit Go.Sort
end Go.Proofs.YtmnjlhcbabhhlaaGreat
namespace Go.Proofs.YtmnjlhcbabhhlaaGreat
open Go.RowKit Go.Sort
theorem rdP_fr' {α : Type} {E : Ty α} {w : World} {b base : Nat} {cs : List Value} {x : α} (h : E.Fr base w cs x) (hb : b < base) : E.RdP (fun k => k ≠ b) w cs x := let ⟨fp, h1, _, h3, _⟩ := h; ⟨fp, h1, fun k hk e => by have := h3 k hk; omega⟩
/-- new data that avoid a block -/
def FrA {α : Type} (E : Ty α) (g base : Nat) (w : World) (cs : List Value) (x : α) : Prop := ∃ fp, E.rd w cs x fp ∧ fp.Nodup ∧ (∀ b ∈ fp, base ≤ b) ∧ Unf w fp ∧ g ∉ fp
section
variable {α : Type} {E : Ty α} {g base : Nat} {w w' : World} {cs : List Value} {x : α}
theorem FrA.fr (h : FrA E g base w cs x) : E.Fr base w cs x := let ⟨fp, h1, h2, h3, h4, _⟩ := h; ⟨fp, h1, h2, h3, h4⟩
theorem FrA.lo (h : E.Fr base w cs x) (hg : g < base) : FrA E g base w cs x := let ⟨fp, h1, h2, h3, h4⟩ := h; ⟨fp, h1, h2, h3, h4, fun hm => by have := h3 g hm; omega⟩
theorem FrA.hi (h : E.Fr base w cs x) (hg : w.heap.size ≤ g) : FrA E g base w cs x := let ⟨fp, h1, h2, h3, h4⟩ := h; ⟨fp, h1, h2, h3, h4, fun hm => by have := E.lt h1 g hm; omega⟩
theorem FrA.same (h : FrA E g base w cs x) (hs : ∀ k, k < w.heap.size → k ≠ g → w'.heap[k]? = w.heap[k]?) : FrA E g base w' cs x := by
 obtain ⟨fp, h1, h2, h3, h4, h5⟩ := h
 have hs' : Same fp w w' := fun k hk => hs k (E.lt h1 k hk) (fun e => h5 (e ▸ hk))
 exact ⟨fp, E.same h1 hs', h2, h3, h4.same hs', h5⟩
theorem FrA.set (h : FrA E g base w cs x) {i : Nat} {u : Value} : FrA E g base (w.setCell ⟨g, i, none⟩ u) cs x := h.same (fun k _ hn => Below.heap_setCell _ _ _ _ (fun e => hn (by simpa using e)))
theorem FrA.below (h : FrA E g base w cs x) (hb : Below w.heap.size w w') : FrA E g base w' cs x := h.same (fun k hk _ => hb.block k hk)
theorem FrA.mono {base' : Nat} (h : FrA E g base w cs x) (hb : base' ≤ base) : FrA E g base' w cs x := let ⟨fp, h1, h2, h3, h4, h5⟩ := h; ⟨fp, h1, h2, fun b hm => Nat.le_trans hb (h3 b hm), h4, h5⟩
end
end Go.Proofs.YtmnjlhcbabhhlaaGreat
namespace Go.Proofs.YtmnjlhcbabhhlaaGreat
open Go.RowKit Go.Sort
end Go.Proofs.YtmnjlhcbabhhlaaGreat
namespace Go.Proofs.YtmnjlhcbabhhlaaGreat
open Go.RowKit Go.Sort
end Go.Proofs.YtmnjlhcbabhhlaaGreat
namespace Go.Proofs.YtmnjlhcbabhhlaaGreat
open Go.RowKit Go.Sort
end Go.Proofs.YtmnjlhcbabhhlaaGreat
namespace Go.Proofs.YtmnjlhcbabhhlaaGreat
open Go.RowKit Go.Sort
end Go.Proofs.YtmnjlhcbabhhlaaGreat
namespace Go.Proofs.YtmnjlhcbabhhlaaGreat
open Go.RowKit Go.Sort
end Go.Proofs.YtmnjlhcbabhhlaaGreat
namespace Go.Proofs.YtmnjlhcbabhhlaaGreat
open Go.RowKit Go.Sort
end Go.Proofs.YtmnjlhcbabhhlaaGreat
namespace Go.Proofs.YtmnjlhcbabhhlaaGreat
open Go.RowKit Go.Sort
/-- a listener of operations: what it keeps (I), and the blocks that are its own (O); it is told operations with the property V alone -/
structure YfV (P : Program) (ar : Int) (g : FuncId) (caps : Array Value) (yc : List (List Int) → Int) (V : List Int → Prop) (I : List (List Int) → (Nat → Prop) → World → Prop) : Prop where
 stable : ∀ {told O w w'}, I told O w → (∀ k, k < w.heap.size → O k → w'.heap[k]? = w.heap[k]?) → w.heap.size ≤ w'.heap.size → I told O w'
 lt : ∀ {told O w}, I told O w → ∀ k, O k → k < w.heap.size
 step : ∀ {told O w0 w u x}, I told O w0 → Below w0.heap.size w0 w → intsT.Fr w0.heap.size w [u] x → x.length ≤ 64 → told.length ≤ 2000000 → V x →
  Calls P g (#[.agg #[.int .i64 ar, u]] ++ caps) w fun e w' => e = .returned (.int .i64 (yc (told ++ [x]))) ∧ ∃ O', I (told ++ [x]) O' w' ∧ TchP O w w' ∧ ∀ k, O' k → O k ∨ w0.heap.size ≤ k
end Go.Proofs.YtmnjlhcbabhhlaaGreat
namespace Go.Proofs.YtmnjlhcbabhhlaaGreat
open Go.RowKit Go.Sort
section
variable {s : Int} {ls : List (List Int)} {vs f g : List Int} {k : Nat}
end
end Go.Proofs.YtmnjlhcbabhhlaaGreat
namespace Go.Proofs.YtmnjlhcbabhhlaaGreat
open Go.RowKit Go.Sort
section
variable {t : Tpl} {ar : Int} {ls : List (List Int)} {vs : List Int}
end
end Go.Proofs.YtmnjlhcbabhhlaaGreat
namespace Go.Proofs.YtmnjlhcbabhhlaaGreat
open Go.RowKit Go.Sort
end Go.Proofs.YtmnjlhcbabhhlaaGreat
namespace Go.Proofs.YtmnjlhcbabhhlaaGreat
open Go.RowKit Go.Sort
end Go.Proofs.YtmnjlhcbabhhlaaGreat
namespace Go.Proofs.YtmnjlhcbabhhlaaGreat
open Go.RowKit Go.Sort
end Go.Proofs.YtmnjlhcbabhhlaaGreat
namespace Go.Proofs.YtmnjlhcbabhhlaaGreat
open Go.RowKit Go.Sort
theorem rd_rdP {α : Type} {E : Ty α} {w : World} {cs : List Value} {x : α} (h : E.Rd w cs x) : E.RdP (fun k => k < w.heap.size) w cs x := let ⟨fp, h⟩ := h; ⟨fp, h, fun k hk => E.lt h k hk⟩
end Go.Proofs.YtmnjlhcbabhhlaaGreat
namespace Go.Proofs.YtmnjlhcbabhhlaaGreat
open Go.RowKit Go.Sort
end Go.Proofs.YtmnjlhcbabhhlaaGreat
namespace Go.Proofs.YtmnjlhcbabhhlaaGreat
open Go.RowKit Go.Sort
end Go.Proofs.YtmnjlhcbabhhlaaGreat

namespace Go.Proofs.YtmnjlhcbabhhlaaGreat
open Go.RowKit Go.Sort
end Go.Proofs.YtmnjlhcbabhhlaaGreat
namespace Go.Proofs.YtmnjlhcbabhhlaaGreat
open Go.RowKit Go.Sort
section
variable {s : Int} {f : Int × List Int}
end
end Go.Proofs.YtmnjlhcbabhhlaaGreat
namespace Go.Proofs.YtmnjlhcbabhhlaaGreat
open Go.RowKit Go.Sort
end Go.Proofs.YtmnjlhcbabhhlaaGreat
namespace Go.Proofs.YtmnjlhcbabhhlaaGreat
open Go.RowKit Go.Sort
end Go.Proofs.YtmnjlhcbabhhlaaGreat
namespace Go.Proofs.YtmnjlhcbabhhlaaGreat
open Go.RowKit Go.Sort
end Go.Proofs.YtmnjlhcbabhhlaaGreat
