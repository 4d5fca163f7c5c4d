/-
Memory of a search for operations: blocks that may be written, as a property; rows whose data lie in such blocks; a row cut short; rows of truth values; pointers to sets. No program is named here.
Contracts: a finder's data; whether what is due goes.
Contracts: the search for operations, told to a listener.
Contracts: a row of one number so many times (slices.Repeat, for the few lengths that occur).
Small lemmas of lists of tuples that both searches use. No program is named here.
 A finder's data while they are made: rows of lists that are due, each a row of its own, and a row of sets; what each append keeps. No program is named here.
A region that draws its order: what may come up when two or three may; two boxes that are filled last. No program is named here.
-/
import Derived.Test.YtajmjfbejfiipaaGreatQAD
import Derived.Test.YtajmjfbejfiipaaGreatQAC
import Derived.Deep.CutRange
import Derived.Test.YtajmjfbejfiipaaGreatQAB
import Derived.Laws.CopyOwn
namespace Go.Proofs.YtajmjfbejfiipaaGreat
open Go.RowKit
/-- only blocks of which O holds are written, and new ones -/
structure TchP (O : Nat → Prop) (w w' : World) : Prop where
 os : w'.os = w.os
 tape : w'.tape = w.tape
 output : w'.output = w.output
 size : w.heap.size ≤ w'.heap.size
 block : ∀ k, k < w.heap.size → ¬ O k → w'.heap[k]? = w.heap[k]?
section
variable {O O' : Nat → Prop} {w w' w'' : World}
theorem TchP.refl (O : Nat → Prop) (w : World) : TchP O w w := ⟨rfl, rfl, rfl, Nat.le_refl _, fun _ _ _ => rfl⟩
theorem TchP.of_below (h : Below w.heap.size w w') (O : Nat → Prop) : TchP O w w' := ⟨h.os, h.tape, h.output, h.size, fun k hk _ => h.block k hk⟩
theorem TchP.then (h : TchP O w w') (h' : TchP O' w' w'') (hO : ∀ k, k < w.heap.size → O' k → O k) : TchP O w w'' :=
 ⟨h'.os.trans h.os, h'.tape.trans h.tape, h'.output.trans h.output, Nat.le_trans h.size h'.size, fun k hk hn => (h'.block k (Nat.lt_of_lt_of_le hk h.size) fun hm => hn (hO k hk hm)).trans (h.block k hk hn)⟩
theorem TchP.mono (h : TchP O w w') (hO : ∀ k, k < w.heap.size → O k → O' k) : TchP O' w w' := ⟨h.os, h.tape, h.output, h.size, fun k hk hn => h.block k hk fun hm => hn (hO k hk hm)⟩
theorem TchP.below {B : Nat} (h : TchP O w w') (hB : B ≤ w.heap.size) (hO : ∀ k, k < B → ¬ O k) : Below B w w' := ⟨h.os, h.tape, h.output, h.size, fun k hk => h.block k (Nat.lt_of_lt_of_le hk hB) (hO k hk)⟩
theorem TchP.cell (h : TchP O w w') {b i : Nat} (hb : b < w.heap.size) (hn : ¬ O b) : w'.cell? ⟨b, i, none⟩ = w.cell? ⟨b, i, none⟩ := World.cell?_of_block (a := ⟨b, i, none⟩) (h.block b hb hn)
theorem TchP.frozen (h : TchP O w w') {b i : Nat} (hb : b < w.heap.size) (hn : ¬ O b) : w'.frozen? ⟨b, i, none⟩ = w.frozen? ⟨b, i, none⟩ := World.frozen?_of_block (a := ⟨b, i, none⟩) (h.block b hb hn)
theorem TchP.set {b i : Nat} {v : Value} (hO : O b) : TchP O w (w.setCell ⟨b, i, none⟩ v) := ⟨rfl, rfl, rfl, by simp [World.setCell], fun k _ hn => Below.heap_setCell _ _ _ _ fun e => hn (by simp at e; rw [e]; exact hO)⟩
theorem TchP.grown {row : Option Nat} (h : w.grownBy w' row) (hO : ∀ k, row = some k → O k) : TchP O w w' := ⟨h.os, h.tape, h.output, h.size, fun k hk hn => h.block k hk fun e => hn (hO k e.symm)⟩
theorem Ty.RdP.tchP {α : Type} {E : Ty α} {ok : Nat → Prop} {cs : List Value} {x : α} (h : E.RdP ok w cs x) (ht : TchP O w w') (hO : ∀ k, k < w.heap.size → ok k → ¬ O k) : E.RdP ok w' cs x :=
 let ⟨fp, h, hf⟩ := h; ⟨fp, E.same h (fun k hk => ht.block k (E.lt h k hk) (hO k (E.lt h k hk) (hf k hk))), hf⟩
theorem pvR.tchP {ok : Nat → Prop} {z : (Int × List Int) × (Int × Value)} (h : pvR ok w z) (ht : TchP O w w') (hO : ∀ k, k < w.heap.size → ok k → ¬ O k) : pvR ok w' z := ⟨h.1, h.2.1, h.2.2.tchP ht hO⟩
end
/-- a datum that lies in blocks of which O holds -/
def Ty.on {α : Type} (E : Ty α) (O : Nat → Prop) : Ty α where
 sz := E.sz
 rd := fun w cs x fp => E.rd w cs x fp ∧ ∀ k ∈ fp, O k
 len := fun h => E.len h.1
 same := fun h hs => ⟨E.same h.1 hs, h.2⟩
 lt := fun h => E.lt h.1
 one := fun h => E.one h.1
section
variable {α : Type} {E : Ty α} {O O' : Nat → Prop} {e base top : Nat} {w w' : World} {v : Value} {ys : List α}
theorem fr_on {cs : List Value} {x : α} (h : E.Fr base w cs x) (hO : ∀ k, base ≤ k → k < w.heap.size → O k) : (E.on O).Fr base w cs x :=
 let ⟨fp, h1, h2, h3, h4⟩ := h; ⟨fp, ⟨h1, fun k hk => hO k (h3 k hk) (E.lt h1 k hk)⟩, h2, h3, h4⟩
theorem on_fr1 {cs : List Value} {x : α} (h : (E.on O).Fr base w cs x) : E.Fr base w cs x := let ⟨fp, h1, h2⟩ := h; ⟨fp, h1.1, h2⟩
theorem on_fr {cs : List Value} {x : List α} (h : (Ty.slice (E.on O)).Fr base w cs x) : (Ty.slice E).Fr base w cs x := by
 obtain ⟨fp, ⟨ad, cap, h1, h2, h3, h4⟩, h5⟩ := h
 refine ⟨fp, ⟨ad, cap, h1, h2, h3, ?_⟩, h5⟩
 rcases h4 with h4 | ⟨h4, b, o, fps, e1, e2, e3, e4⟩
 ·exact .inl h4
 ·exact .inr ⟨h4, b, o, fps, e1, e2, e3, fun i hi => let ⟨cs, h6, h7⟩ := e4 i hi; ⟨cs, h6.1, h7⟩⟩
theorem on_same (h : Bl (E.on O) e base top w v ys) (hv : ∀ g, v.ownBlock = some g → O g) (hs : ∀ k, k < w.heap.size → O k → w'.heap[k]? = w.heap[k]?) : Bl (E.on O) e base top w' v ys := by
 obtain ⟨L, fps, h1, h2, h3, h4, h5, h6⟩ := h
 have hS : Same (flat fps ys.length) w w' := fun k hk => by
  obtain ⟨i, hi, hk⟩ := List.mem_flatMap.1 hk
  obtain ⟨cs, h7, _⟩ := h2 i (by simpa using hi)
  exact hs k (E.lt h7.1 k hk) (h7.2 k hk)
 refine ⟨L, fps, ⟨h1.1, ?_⟩, fun i hi => ?_, h3, h4, h5, h6.same hS⟩
 ·rcases h1.2 with h | ⟨g, cap, cur, rfl, hg, hh, r⟩
  ·exact .inl h
  ·exact .inr ⟨g, cap, cur, rfl, hg, by rw [hs g (lt_of_block hh) (hv g rfl)]; exact hh, r⟩
 ·obtain ⟨cs, h7, h8⟩ := h2 i hi
  exact ⟨cs, (E.on O).same h7 (fun k hk => hS k (List.mem_flatMap.2 ⟨i, by simpa using hi, hk⟩)), h8⟩
theorem on_mono (h : Bl (E.on O) e base top w v ys) (hO : ∀ k, O k → O' k) : Bl (E.on O') e base top w v ys := by
 obtain ⟨L, fps, h1, h2, h3⟩ := h
 exact ⟨L, fps, h1, fun i hi => let ⟨cs, h7, h8⟩ := h2 i hi; ⟨cs, ⟨h7.1, fun k hk => hO k (h7.2 k hk)⟩, h8⟩, h3⟩
/-- a row of numbers: all that it hangs on is its own block -/
theorem bl_int_same {top' : Nat} {ys : List Int} (h : Bl Ty.int e base top w v ys) (hs : ∀ b, v.ownBlock = some b → w'.heap[b]? = w.heap[b]?) (ht : top ≤ top') : Bl Ty.int e base top' w' v ys := by
 obtain ⟨L, fps, h1, h2, h3, h4, h5, h6⟩ := h
 have hnil : ∀ b, b ∉ flat fps ys.length := by
  intro b hb
  obtain ⟨i, hi, hb⟩ := List.mem_flatMap.1 hb
  obtain ⟨cs, ⟨_, _, hf⟩, _⟩ := h2 i (by simpa using hi)
  rw [hf] at hb
  cases hb
 refine ⟨L, fps, ⟨h1.1, ?_⟩, fun i hi => ?_, h3, fun b hb => absurd hb (hnil b), fun g hg => Nat.lt_of_lt_of_le (h5 g hg) ht, fun b hb => absurd hb (hnil b)⟩
 ·rcases h1.2 with h | ⟨g, cap, cur, rfl, hg, hh, r⟩
  ·exact .inl h
  ·exact .inr ⟨g, cap, cur, rfl, hg, by rw [hs g rfl]; exact hh, r⟩
 ·obtain ⟨cs, h7, h8⟩ := h2 i hi
  exact ⟨cs, h7, h8⟩
/-- a row of values as they are -/
theorem bl_val_same {top' : Nat} {ys : List Value} (h : Bl Ty.val e base top w v ys) (hs : ∀ b, v.ownBlock = some b → w'.heap[b]? = w.heap[b]?) (ht : top ≤ top') : Bl Ty.val e base top' w' v ys := by
 obtain ⟨L, fps, h1, h2, h3, h4, h5, h6⟩ := h
 have hnil : ∀ b, b ∉ flat fps ys.length := by
  intro b hb
  obtain ⟨i, hi, hb⟩ := List.mem_flatMap.1 hb
  obtain ⟨cs, ⟨_, _, hf⟩, _⟩ := h2 i (by simpa using hi)
  rw [hf] at hb
  cases hb
 refine ⟨L, fps, ⟨h1.1, ?_⟩, fun i hi => ?_, h3, fun b hb => absurd hb (hnil b), fun g hg => Nat.lt_of_lt_of_le (h5 g hg) ht, fun b hb => absurd hb (hnil b)⟩
 ·rcases h1.2 with h | ⟨g, cap, cur, rfl, hg, hh, r⟩
  ·exact .inl h
  ·exact .inr ⟨g, cap, cur, rfl, hg, by rw [hs g rfl]; exact hh, r⟩
 ·obtain ⟨cs, h7, h8⟩ := h2 i hi
  exact ⟨cs, h7, h8⟩
/-- cut by its last number -/
theorem bl_cut {ad : Option Addr} {n cap : Nat} {xs : List Int} {a : Int} (h : Bl Ty.int e base top w (.slice ad n cap) (xs ++ [a])) : Bl Ty.int e base top w (.slice ad xs.length cap) xs ∧ xs.length + 1 ≤ cap ∧ n = xs.length + 1 ∧ ∃ g, ad = some ⟨g, 0, none⟩ := by
 obtain ⟨L, fps, h1, h2, h3, h4, h5, h6⟩ := h
 have hl : (xs ++ [a]).length = xs.length + 1 := by simp
 have hnil : ∀ b, b ∉ flat fps (xs ++ [a]).length := by
  intro b hb
  obtain ⟨i, hi, hb⟩ := List.mem_flatMap.1 hb
  obtain ⟨cs, ⟨_, _, hf⟩, _⟩ := h2 i (by simpa using hi)
  rw [hf] at hb
  cases hb
 have hsub : ∀ b, b ∈ flat fps xs.length → False := fun b hb => by
  obtain ⟨i, hi, hb⟩ := List.mem_flatMap.1 hb
  exact hnil b (List.mem_flatMap.2 ⟨i, by simp at hi ⊢; omega, hb⟩)
 rcases h1.2 with ⟨_, h0⟩ | ⟨g, cap', cur, hv, hg, hh, hn, hc, hcs, hL⟩
 ·omega
 ·simp only [Value.slice.injEq] at hv
  obtain ⟨rfl, rfl, rfl⟩ := hv
  rw [hl] at hn
  refine ⟨⟨L.take xs.length, fps, ⟨?_, .inr ⟨g, _, cur, rfl, hg, hh, by omega, hc, hcs, ?_⟩⟩, fun i hi => ?_, ?_, fun b hb => (hsub b hb).elim, fun g' hg' => h5 g' hg', fun b hb => (hsub b hb).elim⟩, hn, hl, g, rfl⟩
  ·rw [List.length_take, h1.1, hl]
   simp [Ty.int]
  ·rw [← hL, List.take_take, hl]
   congr 1
   first | (simp [Ty.int]; done) | (simp [Ty.int]; omega)
  ·obtain ⟨cs, h7, h8⟩ := h2 i (by omega)
   rw [List.getElem_append_left hi] at h7
   refine ⟨cs, h7, fun j hj => ?_⟩
   have h9 := h8 j hj
   have hcl : cs.length = 1 := Ty.int.len h7
   rw [List.getElem?_take_of_lt (by simp [Ty.int]; omega)]
   exact h9
  ·have : flat fps xs.length = [] := List.eq_nil_iff_forall_not_mem.2 fun b hb => hsub b hb
   rw [this]
   exact List.nodup_nil
end
abbrev boolsT : Ty (List Bool) := Ty.slice Ty.bool
theorem BR.rdP {e base : Nat} {w : World} {g n cap : Nat} {L : List Bool} {ok : Nat → Prop} (h : BR e base w g n cap L) (hl : n ≤ capMax) (hg : ok g) : boolsT.RdP ok w [.slice (some ⟨g, 0, none⟩) n cap] L := by
 obtain ⟨h1, h2, h3⟩ := id h
 subst h1
 have hlt := h.lt
 have hcap : L.length ≤ cap := by
  rcases h3.2 with ⟨h', _⟩ | ⟨g', cap', cur, hg', hbg, hh, hn, r⟩
  ·simp at h'
  ·simp only [Value.slice.injEq, Option.some.injEq, Addr.mk.injEq, and_true, true_and] at hg'
   omega
 refine slice_mkP rfl hcap hl fun h0 => ⟨g, 0, rfl, hlt, hg, fun i hi => ⟨[.bool L[i]], ⟨[], ⟨rfl, rfl⟩, fun k hk => by cases hk⟩, fun j hj => ?_⟩⟩
 obtain rfl : j = 0 := by simpa using hj
 have := h.cell hi
 simpa [Ty.bool] using this
theorem bools_exP {ok : Nat → Prop} {w : World} {u : Value} {xs : List Bool} (h : boolsT.RdP ok w [u] xs) :
  ∃ ad cap, u = .slice ad xs.length cap ∧ xs.length ≤ cap ∧ (0 < xs.length → ∃ b o, ad = some ⟨b, o, none⟩ ∧ b < w.heap.size ∧ ∀ i (h : i < xs.length), w.cell? ⟨b, o + i, none⟩ = some (.bool xs[i])) := by
 obtain ⟨ad, cap, h1, h2, h3, h4⟩ := slice_exP h
 refine ⟨ad, cap, by simpa using h1, h2, fun hp => ?_⟩
 obtain ⟨b, o, h5, h6, _, h7⟩ := h4 hp
 refine ⟨b, o, h5, h6, fun i hi => ?_⟩
 obtain ⟨cs, ⟨fp, ⟨rfl, _⟩, _⟩, h10⟩ := h7 i hi
 simpa [Ty.bool] using h10 0 (by simp)
/-- a row of values as they are, each of which reads as a datum of one cell -/
theorem rows_ofP {α : Type} {E : Ty α} {ok : Nat → Prop} {w : World} {v : Value} {vs : List Value} {ts : List α} (hE : E.sz = 1) (h : (Ty.slice Ty.val).RdP ok w [v] vs) (hl : vs.length = ts.length) (hr : ∀ i (h : i < vs.length) (h' : i < ts.length), E.RdP ok w [vs[i]] ts[i]) : (Ty.slice E).RdP ok w [v] ts := by
 obtain ⟨ad, cap, hv, h1, h2, h3⟩ := slice_exP h
 obtain rfl : v = _ := by simpa using hv
 refine slice_mkP hl h1 h2 fun h0 => ?_
 obtain ⟨b, o, rfl, hb, hok, he⟩ := h3 h0
 refine ⟨b, o, rfl, hb, hok, fun i hi => ?_⟩
 obtain ⟨cs, ⟨fp, ⟨rfl, _, _⟩, hf⟩, h6⟩ := he i (by omega)
 refine ⟨_, hr i (by omega) hi, fun j hj => ?_⟩
 have h7 := h6 j hj
 rw [hE]
 exact h7
theorem bl_val_rdP {e base top : Nat} {w : World} {v : Value} {vs : List Value} {ok : Nat → Prop} (h : Bl Ty.val e base top w v vs) (hl : vs.length ≤ capMax) (hv : ∀ g, v.ownBlock = some g → ok g) : (Ty.slice Ty.val).RdP ok w [v] vs := by
 obtain ⟨fp, h1, -, -, -⟩ := h.fr hl
 refine ⟨fp, h1, fun k hk => ?_⟩
 obtain ⟨ad, cap, hv', -, -, h3⟩ := h1
 obtain rfl : v = _ := by simpa using hv'
 rcases h3 with ⟨_, rfl⟩ | ⟨_, b, o, fps, rfl, _, rfl, h4⟩
 ·cases hk
 ·rcases List.mem_cons.1 hk with rfl | hk
  ·exact hv _ rfl
  ·obtain ⟨i, hi, hk⟩ := List.mem_flatMap.1 hk
   obtain ⟨cs, ⟨_, _, hf⟩, _⟩ := h4 i (by simpa using hi)
   rw [hf] at hk
   cases hk
/-- a pointer to a box whose third cell is a row of truth values -/
def Ty.setp : Ty (List Bool) where
 sz := 1
 rd := fun w cs L fp => ∃ bx v fp', cs = [.pointer (some ⟨bx, 0, none⟩)] ∧ bx < w.heap.size ∧ w.cell? ⟨bx, 2, none⟩ = some v ∧ boolsT.rd w [v] L fp' ∧ fp = bx :: fp'
 len := by rintro _ _ _ _ ⟨_, _, _, rfl, _⟩; rfl
 same := by
  rintro w w' _ L _ ⟨bx, v, fp', rfl, h1, h2, h3, rfl⟩ hs
  have hb := hs bx (List.mem_cons_self ..)
  refine ⟨bx, v, fp', rfl, ?_, (World.cell?_of_block (a := ⟨bx, 2, none⟩) hb).trans h2, boolsT.same h3 (fun k hk => hs k (List.mem_cons_of_mem _ hk)), rfl⟩
  rcases Nat.lt_or_ge bx w'.heap.size with h' | h'
  ·exact h'
  ·rw [Array.getElem?_eq_none h', Array.getElem?_eq_getElem h1] at hb
   cases hb
 lt := by
  rintro w _ L _ ⟨bx, v, fp', rfl, h1, h2, h3, rfl⟩ k hk
  rcases List.mem_cons.1 hk with rfl | hk
  ·exact h1
  ·exact boolsT.lt h3 k hk
 one := by rintro _ _ _ _ ⟨_, _, _, rfl, _⟩ u hu; simp at hu; subst hu; rfl
theorem setp_exP {ok : Nat → Prop} {w : World} {u : Value} {L : List Bool} (h : Ty.setp.RdP ok w [u] L) : ∃ bx v, u = .pointer (some ⟨bx, 0, none⟩) ∧ bx < w.heap.size ∧ w.cell? ⟨bx, 2, none⟩ = some v ∧ boolsT.RdP ok w [v] L := by
 obtain ⟨_, ⟨bx, v, fp', hu, h1, h2, h3, rfl⟩, hf⟩ := h
 exact ⟨bx, v, by simpa using hu, h1, h2, fp', h3, fun k hk => hf k (List.mem_cons_of_mem _ hk)⟩
theorem setp_of {e base : Nat} {w : World} {bx g n : Nat} {L : List Bool} {ok : Nat → Prop} (h : SetAt e base w bx g n L) (hl : n ≤ capMax) (hb : ok bx) (hg : ok g) : Ty.setp.RdP ok w [.pointer (some ⟨bx, 0, none⟩)] L := by
 obtain ⟨h1, h2, h3, h4, h5⟩ := h
 obtain ⟨fp, hfp, hf⟩ := h5.rdP hl hg
 exact ⟨_, ⟨bx, _, fp, rfl, h2, h4, hfp, rfl⟩, fun k hk => by
  rcases List.mem_cons.1 hk with rfl | hk
  ·exact hb
  ·exact hf k hk⟩
end Go.Proofs.YtajmjfbejfiipaaGreat
namespace Go.Proofs.YtajmjfbejfiipaaGreat
open Go.RowKit Go.Sort
/-- what a finder only reads: at block bs -/
def Fd (ok : Nat → Prop) (w : World) (bs : Nat) (t : Tpl) (ar : Int) (due : List (List (Int × List Int))) (fx : List Int) : Prop :=
 bs < w.heap.size ∧ ∃ v3 v4 v5, w.cell? ⟨bs, 0, none⟩ = some (.int .i64 t.1) ∧ w.cell? ⟨bs, 2, none⟩ = some (.int .i64 ar) ∧ w.cell? ⟨bs, 3, none⟩ = some v3 ∧ w.cell? ⟨bs, 4, none⟩ = some v4 ∧ w.cell? ⟨bs, 5, none⟩ = some v5 ∧
  duesT.RdP ok w [v3] due ∧ (Ty.slice boolsT).RdP ok w [v4] (insF t) ∧ intsT.RdP ok w [v5] fx
section
variable {ok ok' : Nat → Prop} {w w' : World} {bs : Nat} {t : Tpl} {ar : Int} {due : List (List (Int × List Int))} {fx : List Int}
theorem Fd.below (h : Fd ok w bs t ar due fx) (hb : Below w.heap.size w w') : Fd ok w' bs t ar due fx := by
 obtain ⟨h1, v3, v4, v5, c0, c2, c3, c4, c5, h3, h4, h5⟩ := h
 exact ⟨Nat.lt_of_lt_of_le h1 hb.size, v3, v4, v5, (hb.cell (p := ⟨bs, 0, none⟩) h1).trans c0, (hb.cell (p := ⟨bs, 2, none⟩) h1).trans c2, (hb.cell (p := ⟨bs, 3, none⟩) h1).trans c3, (hb.cell (p := ⟨bs, 4, none⟩) h1).trans c4, (hb.cell (p := ⟨bs, 5, none⟩) h1).trans c5, h3.below hb, h4.below hb, h5.below hb⟩
/-- its own last two cells and other blocks may be written -/
theorem Fd.tchP {O : Nat → Prop} (h : Fd ok w bs t ar due fx) (ht : TchP O w w') (hO : ∀ k, k < w.heap.size → ok k → ¬ O k) (hb : ¬ O bs) : Fd ok w' bs t ar due fx := by
 obtain ⟨h1, v3, v4, v5, c0, c2, c3, c4, c5, h3, h4, h5⟩ := h
 exact ⟨Nat.lt_of_lt_of_le h1 ht.size, v3, v4, v5, (ht.cell h1 hb).trans c0, (ht.cell h1 hb).trans c2, (ht.cell h1 hb).trans c3, (ht.cell h1 hb).trans c4, (ht.cell h1 hb).trans c5, h3.tchP ht hO, h4.tchP ht hO, h5.tchP ht hO⟩
theorem Fd.set {i : Nat} {u : Value} (h : Fd ok w bs t ar due fx) (hi : 6 ≤ i) (hO : ¬ ok bs) : Fd ok (w.setCell ⟨bs, i, none⟩ u) bs t ar due fx := by
 obtain ⟨h1, v3, v4, v5, c0, c2, c3, c4, c5, h3, h4, h5⟩ := h
 have hs : TchP (fun k => k = bs) w (w.setCell ⟨bs, i, none⟩ u) := TchP.set rfl
 have hk : ∀ k, k < w.heap.size → ok k → ¬ (k = bs) := fun k _ hk e => hO (e ▸ hk)
 have hc : ∀ j, j < 6 → (w.setCell ⟨bs, i, none⟩ u).cell? ⟨bs, j, none⟩ = w.cell? ⟨bs, j, none⟩ := fun j hj => World.cell?_setCell_other _ _ _ _ (by first | (simp; done) | (simp; omega))
 exact ⟨by simpa [World.setCell] using h1, v3, v4, v5, (hc 0 (by omega)).trans c0, (hc 2 (by omega)).trans c2, (hc 3 (by omega)).trans c3, (hc 4 (by omega)).trans c4, (hc 5 (by omega)).trans c5, h3.tchP hs hk, h4.tchP hs hk, h5.tchP hs hk⟩
theorem Fd.mono (h : Fd ok w bs t ar due fx) (hk : ∀ k, k < w.heap.size → ok k → ok' k) : Fd ok' w bs t ar due fx := by
 obtain ⟨h1, v3, v4, v5, c0, c2, c3, c4, c5, h3, h4, h5⟩ := h
 exact ⟨h1, v3, v4, v5, c0, c2, c3, c4, c5, h3.mono hk, h4.mono hk, h5.mono hk⟩
end
theorem rel_tupsIn {s : Int} {r : Int × List (List Int)} (hr : relOk s r) : ∀ t ∈ r.2, t.length = r.1.toNat ∧ ∀ a ∈ t, 0 ≤ a ∧ a ≤ s - 1 := fun t ht => by
 obtain ⟨k, hk, rfl⟩ := List.mem_iff_getElem.1 ht
 obtain ⟨h1, h2⟩ := (hr.2.2 k hk).1
 have := hr.2.1
 unfold sizeOk at this
 exact ⟨by omega, h2⟩
theorem atL_in {s : Int} {vals cells : List Int} {N : Nat} (hv : ∀ a ∈ vals, 0 ≤ a ∧ a ≤ s - 1) (hl : vals.length = N) (hc : ∀ p ∈ cells, 0 ≤ p ∧ p < (N : Int)) : ∀ a ∈ atL vals cells, 0 ≤ a ∧ a ≤ s - 1 := fun a ha => by
 obtain ⟨p, hp, rfl⟩ := List.mem_map.1 ha
 have := hc p hp
 have hpl : p.toNat < vals.length := by omega
 rw [List.getD_eq_getElem?_getD, List.getElem?_eq_getElem hpl]
 exact hv _ (List.getElem_mem hpl)
/-- what a look at the truth values tells -/
theorem ins_at {t : Tpl} {N : Nat} {a : Int × List Int} {vals : List Int} (hT : tplOk t) (ha : lookOk t N a) (hv : ∀ x ∈ vals, 0 ≤ x ∧ x ≤ t.1 - 1) (hc : ∀ p ∈ a.2, 0 ≤ p ∧ p < (vals.length : Int)) :
  ∃ k j : Nat, a.1 = (k : Int) ∧ ∃ hk : k < (insF t).length, idxL t.1 0 (atL vals a.2) = (j : Int) ∧ ∃ hj : j < ((insF t)[k]).length, ((insF t)[k])[j] = tb (holdsC t vals a) := by
 obtain ⟨k, e1, hk, e2, e3⟩ := ha
 have hs := hT.1
 have hr := hT.2.2 _ (List.getElem_mem hk)
 have hm := hr.2.1
 unfold sizeOk at hs hm
 have hin := atL_in hv rfl hc
 obtain ⟨i0, i1⟩ := idx_lt (s := t.1) (by omega) (xs := atL vals a.2) (m := (t.2[k]).1.toNat) (by rw [atL_len, e2]) hin
 obtain ⟨j, hj⟩ : ∃ j : Nat, idxL t.1 0 (atL vals a.2) = j := ⟨(idxL t.1 0 (atL vals a.2)).toNat, by omega⟩
 have hkl : k < (insF t).length := by rw [insF_len]; exact hk
 refine ⟨k, j, e1, hkl, hj, ?_⟩
 have he := insF_get (t := t) hk hkl
 have hjl : j < ((insF t)[k]).length := by rw [he, seenL_len]; omega
 refine ⟨hjl, ?_⟩
 have h3 : ((insF t)[k])[j] = (seenL t.1 (t.1 ^ (t.2[k]).1.toNat).toNat (t.2[k]).2)[j]'(by rw [← he]; exact hjl) := by simp only [he]
 rw [h3, seenL_get (s := t.1) (by omega) (rel_tupsIn hr) (t := atL vals a.2) (by rw [atL_len, e2]) hin hj]
 unfold holdsC
 rw [e1, relAt_nat hk]
set_option maxHeartbeats 3200000 in
set_option maxRecDepth 100000 in
theorem fgoes_any (w : World) {ok : Nat → Prop} {bs : Nat} {t : Tpl} {ar : Int} {due : List (List (Int × List Int))} {fx : List Int} (hF : Fd ok w bs t ar due fx) {v : Value} {vals : List Int} (c7 : w.cell? ⟨bs, 7, none⟩ = some v) (hv : intsT.Rd w [v] vals) (hT : tplOk t) (hD : ldueOk t due)
  (hin : ∀ a ∈ vals, 0 ≤ a ∧ a ≤ t.1 - 1) (h1 : 1 ≤ vals.length) (h2 : vals.length ≤ due.length) (hdl : due.length ≤ 1000) (h3 : ∀ d ∈ due, d.length ≤ 1000000) :
  Calls Tryz.prog 147 #[.pointer (some ⟨bs, 0, none⟩)] w fun e w' => e = .returned (.bool (goesF t due vals)) ∧ Below w.heap.size w w' := by
 obtain ⟨hbs, v3, v4, v5, c0, -, c3, c4, -, hd, hi, -⟩ := hF
 obtain ⟨k, hk⟩ : ∃ k, vals.length = k + 1 := ⟨vals.length - 1, by omega⟩
 have hkd : k < due.length := by omega
 have HG := Lib.hid (goesF_at (t := t) hk hkd)
 obtain ⟨da, dc, hdv, -, -, hdce⟩ := slices_ex hd.rd
 obtain rfl : v3 = _ := by simpa using hdv
 obtain ⟨g, go0, rfl, hg, hce⟩ := hdce (by omega)
 obtain ⟨u, hu, hcu⟩ := hce k hkd
 obtain ⟨_, _, hu1, -, -, hue⟩ := pairs_ex hu
 obtain rfl : u = _ := by simpa using hu1
 have HU := Lib.hid hue
 obtain ⟨va, vc, hv1, -, -, hve⟩ := ints_ex hv
 obtain rfl : v = _ := by simpa using hv1
 obtain ⟨gv, ov, rfl, hgv, hvce⟩ := hve (by omega)
 have HV := Lib.hid hvce
 obtain ⟨ia, ic, hi1, -, -, hie⟩ := slices_ex hi.rd
 obtain rfl : v4 = _ := by simpa using hi1
 have HI := Lib.hid hie
 have HT := Lib.hid hT
 have HD := Lib.hid (fun j (hj : j < due[k].length) => hD k hkd _ (List.getElem_mem hj))
 have HIN := Lib.hid hin
 have HK := Lib.hid hk
 have hs := hT.1
 unfold sizeOk at hs
 have hll := h3 _ (List.getElem_mem hkd)
 have hwr : IntKind.i64.wrap ((k : Int) + 1 - 1) = k := by rw [Int.add_sub_cancel]; exact wrap_small (by omega) (by omega)
 have hwr2 : IntKind.i64.wrap (((k + 1 : Nat) : Int) - 1) = k := by rw [show ((k + 1 : Nat) : Int) - 1 = k by omega]; exact wrap_small (by omega) (by omega)
 rw [hk] at c7
 clear hd hdv hdce hce hu hv hT hD hk h1 h2 h3 hi hu1 hue hv1 hve hvce hi1 hie hin
 go_enter Tryz.func147, Tryz.ntmps147
 go_wp2_with fail
 go_quiet (fail)
 generalize hW : w.drewN _ = W
 have hbW : Below w.heap.size w W := hW ▸ (Quiet.drewN w _).below
 clear hW
 go_wp2_with fail
 go_loopw [21] (fun i wr => ∃ j : Nat, j ≤ due[k].length ∧ i = .int .i64 j ∧ noneB (fun a => !tb (holdsC t vals a)) (due[k].take j) ∧ Below w.heap.size w wr) (fun i _ => due[k].length - (intOf i).toNat)
 case atStart => exact ⟨0, Nat.zero_le _, rfl, noneB_zero _ _, hbW⟩
 case round =>
  obtain ⟨j, hj, rfl, hno, hbe⟩ := hrel
  have HN := Lib.hid hno
  have hze := hbe.size
  clear hno hbW
  by_cases hjl : j < due[k].length
  ·obtain ⟨q, p, rfl, hq, hce⟩ := HU.out (by omega)
   obtain ⟨u, hu, -, g0, g1⟩ := hce j hjl
   obtain ⟨lo, hle⟩ := HD.out j hjl
   obtain ⟨kr, ir, e1, hkr, e2, hir, e3⟩ := ins_at HT.out lo HIN.out (fun p hp => by have := hle p hp; have := HK.out; omega)
   obtain ⟨ri, ro, rfl, hri, hrce⟩ := HI.out (by omega)
   obtain ⟨ur, hur, hcr⟩ := hrce kr hkr
   obtain ⟨_, _, he, -, -, hbo⟩ := Ty.slice_ex hur
   obtain rfl : ur = _ := by simpa using he
   obtain ⟨bi, bo, rfl, hbi, hbce⟩ := hbo (by omega)
   obtain ⟨cs, ⟨_, rfl, _⟩, hbc⟩ := hbce ir hir
   have hbc := hbc 0 (by simp)
   simp only [Ty.bool, Nat.mul_one, Nat.add_zero, List.getElem_cons_zero] at hbc
   rw [e3] at hbc
   obtain ⟨ad, cap, hue, -, -, huc⟩ := ints_ex hu
   obtain rfl : u = _ := by simpa using hue
   have HUC := Lib.hid huc
   have HLE := Lib.hid hle
   have HAT : Hid (atL vals (due[k][j]).2 = atL vals (due[k][j]).2) := rfl
   have H2 := Lib.hid e2
   have hl4 : (due[k][j]).2.length ≤ 4 := by
    obtain ⟨k', -, hk', h4, -⟩ := lo
    have := (HT.out.2.2 _ (List.getElem_mem hk')).2.1
    unfold sizeOk at this
    omega
   have HAI := Lib.hid (atL_in HIN.out rfl (fun p hp => by have := hle p hp; have := HK.out; omega) : ∀ a ∈ atL vals (due[k][j]).2, 0 ≤ a ∧ a ≤ t.1 - 1)
   have k0 := (hbe.cell (p := ⟨bs, 0, none⟩) hbs).trans c0
   have k4 := (hbe.cell (p := ⟨bs, 4, none⟩) hbs).trans c4
   have k7 := (cellB hbe hbs).trans c7
   have d0 := (cellB hbe hq).trans g0
   have d1 := (cellB hbe hq).trans g1
   have d2 := (cellB hbe hri).trans hcr
   have d3 := (cellB hbe hbi).trans hbc
   rw [e1] at d0
   have hbsr : bs < wr.heap.size := by omega
   have hbir : bi < wr.heap.size := by omega
   have hrir : ri < wr.heap.size := by omega
   clear hce hu g0 g1 lo hle e1 e2 e3 hrce hur hcr he hbo hbce hbc hue huc c0 c3 c4 c7
   obtain ⟨wv, rfl⟩ : ∃ wv : World, wv = wr := ⟨_, rfl⟩
   go_wp2_with fail
   generalize hWa : World.alloc wv _ = wa
   have hba : Below wv.heap.size wv wa := hWa ▸ bA
   have hsa : wv.heap.size + 1 ≤ wa.heap.size := by rw [← hWa]; simp
   have l0 : wa.cell? ⟨wv.heap.size, 0, none⟩ = some (.int .i64 kr) := by rw [← hWa]; simp [go_sem]
   have l1 : wa.cell? ⟨wv.heap.size, 1, none⟩ = some (.slice ad (due[k][j]).2.length cap) := by rw [← hWa]; simp [go_sem]
   replace k0 := (cellB hba (by omega)).trans k0
   replace k4 := (cellB hba (by omega)).trans k4
   replace k7 := (cellB hba (by omega)).trans k7
   replace d2 := (cellB hba (by omega)).trans d2
   replace d3 := (cellB hba (by omega)).trans d3
   have hbwa := bthen hbe hba
   clear hWa d0 d1
   go_loopw [28, 5] (fun i o wi => ∃ m : Nat, m ≤ (due[k][j]).2.length ∧ i = .int .i64 m ∧ o = .int .i64 (idxL t.1 0 ((atL vals (due[k][j]).2).take m)) ∧ Quiet wa wi) (fun i _ _ => (due[k][j]).2.length - (intOf i).toNat)
   case atStart => exact ⟨0, Nat.zero_le _, rfl, by simp [idxL], Quiet.refl _⟩
   case round =>
    obtain ⟨m, hm, rfl, rfl, hqi⟩ := hrel
    have hbi2 := hqi.below
    have hzi := hbi2.size
    replace k0 := (cellB hbi2 (by omega)).trans k0
    replace k4 := (cellB hbi2 (by omega)).trans k4
    replace k7 := (cellB hbi2 (by omega)).trans k7
    replace d2 := (cellB hbi2 (by omega)).trans d2
    replace d3 := (cellB hbi2 (by omega)).trans d3
    replace l0 := (cellB hbi2 (by omega)).trans l0
    replace l1 := (cellB hbi2 (by omega)).trans l1
    have hbwi := bthen hbwa hbi2
    by_cases hml : m < (due[k][j]).2.length
    ·obtain ⟨b6, o6, rfl, hb6, hce6⟩ := HUC.out (by omega)
     have e6 := (hce6 m hml).2
     obtain ⟨pn, hpn⟩ : ∃ pn : Nat, (due[k][j]).2[m] = (pn : Int) := ⟨((due[k][j]).2[m]).toNat, by have := HLE.out _ (List.getElem_mem hml); omega⟩
     have hpl := HLE.out _ (List.getElem_mem hml)
     rw [hpn] at e6 hpl
     have hpk : pn < k + 1 := by omega
     have hpv : pn < vals.length := by have := HK.out; omega
     have e7 := (HV.out pn hpv).2
     have f6 := (cellB hbwi hb6).trans e6
     have f7 := (cellB hbwi hgv).trans e7
     have hma : m < (atL vals (due[k][j]).2).length := by rw [atL_len]; exact hml
     have b0 := idx_bd (s := t.1) (by omega) HAI.out m (by omega)
     have b1 := idx_bd (s := t.1) (by omega) HAI.out (m + 1) (by omega)
     have p0 := pow_le (s := t.1) (by omega) (by omega) (k := m + 1) (by omega)
     have ha := HAI.out _ (List.getElem_mem hma)
     have hr := idxL_take (s := t.1) hma
     rw [atL_at hml hpn hpv] at ha hr
     have HQ : -1000000000000000000 ≤ idxL t.1 0 ((atL vals (due[k][j]).2).take m) * t.1 ∧ idxL t.1 0 ((atL vals (due[k][j]).2).take m) * t.1 ≤ 1000000000000000000 := by
      have hq := Int.mul_nonneg b0.1 (show (0 : Int) ≤ t.1 by omega)
      rw [hr] at b1
      generalize t.1 ^ (m + 1) = P at *
      generalize idxL t.1 0 ((atL vals (due[k][j]).2).take m) * t.1 = Q at *
      omega
     have hw1 : IntKind.i64.wrap (idxL t.1 0 ((atL vals (due[k][j]).2).take m) * t.1) = idxL t.1 0 ((atL vals (due[k][j]).2).take m) * t.1 := wrap_small HQ.1 HQ.2
     have hw2 : IntKind.i64.wrap (idxL t.1 0 ((atL vals (due[k][j]).2).take m) * t.1 + vals[pn]) = idxL t.1 0 ((atL vals (due[k][j]).2).take m) * t.1 + vals[pn] := wrap_small (by omega) (by omega)
     have HR := Lib.hid hr
     clear b0 b1 p0 ha hr hce6 HQ hpn
     go_wp2_with fail
     go_quiet (fail)
     go_wp2_with fail
     clear hw1 hw2
     go_roundw
     case rel => exact ⟨m + 1, by omega, by go_num, by rw [HR.out], hqi.then (Quiet.drewN _ _)⟩
     case measure => simp [intOf]; omega
    ·obtain rfl : m = (due[k][j]).2.length := by omega
     rw [show (due[k][j]).2.length = (atL vals (due[k][j]).2).length from atL_len.symm, List.take_length, H2.out]
     cases hq : tb (holdsC t vals due[k][j])
     ·have HE : Hid (goesF t due vals = false) := by unfold Hid; rw [HG.out, any_at hjl (by rw [hq]; rfl)]; rfl
      rw [hq] at d3
      clear hq
      go_wp2_with fail
      go_quiet (fail)
      go_wp2_with fail
      go_ret
      exact ⟨ret_bool HE.out.symm, bthen hbwi (Quiet.drewN _ _).below⟩
     ·have HNX : Hid (noneB (fun a => !tb (holdsC t vals a)) (due[k].take (j + 1))) := noneB_succ hjl HN.out (by rw [hq]; rfl)
      rw [hq] at d3
      clear hq
      go_wp2_with fail
      go_quiet (fail)
      go_wp2_with fail
      go_roundw
      case rel => exact ⟨j + 1, by omega, by go_num, HNX.out, bthen hbwi (Quiet.drewN _ _).below⟩
      case measure => simp [intOf]; omega
  ·obtain rfl : j = due[k].length := by omega
   have HE : Hid (goesF t due vals = true) := by
    unfold Hid
    rw [HG.out]
    have h1 := HN.out
    rw [List.take_length] at h1
    rw [noneB_any h1]
    rfl
   go_wp2_with fail
   go_ret
   exact ⟨ret_bool HE.out.symm, hbe⟩
end Go.Proofs.YtajmjfbejfiipaaGreat
namespace Go.Proofs.YtajmjfbejfiipaaGreat
open Go.RowKit Go.Sort
/-- what a search turns: how many steps, the values so far, in a row of its own -/
def Tb (e base : Nat) (w : World) (bs st : Nat) (v : Value) (vals : List Int) : Prop :=
 w.cell? ⟨bs, 6, none⟩ = some (.int .i64 (st : Int)) ∧ w.cell? ⟨bs, 7, none⟩ = some v ∧ w.frozen? ⟨bs, 6, none⟩ = false ∧ w.frozen? ⟨bs, 7, none⟩ = false ∧ Bl Ty.int e base w.heap.size w v vals
theorem Tb.same {e base : Nat} {w w' : World} {bs st : Nat} {v : Value} {vals : List Int} (h : Tb e base w bs st v vals) (hb : w'.heap[bs]? = w.heap[bs]?) (hs : ∀ b, v.ownBlock = some b → w'.heap[b]? = w.heap[b]?) (hz : w.heap.size ≤ w'.heap.size) : Tb e base w' bs st v vals :=
 let ⟨h1, h2, h3, h4, h5⟩ := h
 ⟨(World.cell?_of_block (a := ⟨bs, 6, none⟩) hb).trans h1, (World.cell?_of_block (a := ⟨bs, 7, none⟩) hb).trans h2, (World.frozen?_of_block (a := ⟨bs, 6, none⟩) hb).trans h3, (World.frozen?_of_block (a := ⟨bs, 7, none⟩) hb).trans h4, bl_int_same h5 hs hz⟩
theorem Tb.below {e base : Nat} {w w' : World} {bs st : Nat} {v : Value} {vals : List Int} (h : Tb e base w bs st v vals) (hl : bs < w.heap.size) (hb : Below w.heap.size w w') : Tb e base w' bs st v vals :=
 h.same (hb.block bs hl) (fun _ hq => hb.block _ (h.2.2.2.2.lt_top hq)) hb.size
/-- a listener of operations: what it keeps (I), and the blocks that are its own (O) -/
structure Yf (P : Program) (ar : Int) (g : FuncId) (caps : Array Value) (yc : List (List Int) → Int) (I : List (List Int) → (Nat → Prop) → World → Prop) : Prop where
 stable : ∀ {told O w w'}, I told O w → (∀ k, k < w.heap.size → O k → w'.heap[k]? = w.heap[k]?) → w.heap.size ≤ w'.heap.size → I told O w'
 lt : ∀ {told O w}, I told O w → ∀ k, O k → k < w.heap.size
 step : ∀ {told O w0 w u x}, I told O w0 → Below w0.heap.size w0 w → intsT.Fr w0.heap.size w [u] x → x.length ≤ 64 → told.length ≤ 2000000 →
  Calls P g (#[.agg #[.int .i64 ar, u]] ++ caps) w fun e w' => e = .returned (.int .i64 (yc (told ++ [x]))) ∧ ∃ O', I (told ++ [x]) O' w' ∧ TchP O w w' ∧ ∀ k, O' k → O k ∨ w0.heap.size ≤ k
theorem skip_at {fx : List Int} {i : Nat} {a : Int} (h : i < fx.length) : skipB fx i a = (decide (0 ≤ fx[i]) && (fx[i] != a)) := by
 unfold skipB
 rw [List.getD_eq_getElem?_getD, List.getElem?_eq_getElem h]
 rfl
/-- how a search leaves memory -/
def SrR (e base : Nat) (ok : Nat → Prop) (bs : Nat) (t : Tpl) (ar : Int) (due : List (List (Int × List Int))) (fx : List Int) (I : List (List Int) → (Nat → Prop) → World → Prop) (w : World) (v : Value) (O : Nat → Prop) (vals : List Int) (R : FR) (w' : World) : Prop :=
 ∃ v' O', Fd ok w' bs t ar due fx ∧ Tb e base w' bs R.2.1 v' vals ∧ I R.2.2 O' w' ∧ (∀ k, O' k → O k ∨ w.heap.size ≤ k) ∧ (∀ k, v'.ownBlock = some k → ¬ O' k ∧ (v.ownBlock = some k ∨ w.heap.size ≤ k)) ∧ TchP (fun k => O k ∨ k = bs ∨ v.ownBlock = some k) w w'
theorem SrR.mk {e base : Nat} {ok : Nat → Prop} {bs : Nat} {t : Tpl} {ar : Int} {due : List (List (Int × List Int))} {fx : List Int} {I : List (List Int) → (Nat → Prop) → World → Prop} {w : World} {v : Value} {O : Nat → Prop} {vals : List Int} {R : FR} {w' : World} (v' : Value) (O' : Nat → Prop)
  (h1 : Fd ok w' bs t ar due fx) (h2 : Tb e base w' bs R.2.1 v' vals) (h3 : I R.2.2 O' w') (h4 : ∀ k, O' k → O k ∨ w.heap.size ≤ k) (h5 : ∀ k, v'.ownBlock = some k → ¬ O' k ∧ (v.ownBlock = some k ∨ w.heap.size ≤ k)) (h6 : TchP (fun k => O k ∨ k = bs ∨ v.ownBlock = some k) w w') : SrR e base ok bs t ar due fx I w v O vals R w' :=
 ⟨v', O', h1, h2, h3, h4, h5, h6⟩
/-- the last value struck -/
theorem tb_cut {e base : Nat} {ok : Nat → Prop} {bs st n c : Nat} {t : Tpl} {ar : Int} {due : List (List (Int × List Int))} {fx vals : List Int} {x : Int} {w : World} {a : Option Addr} (hF : Fd ok w bs t ar due fx) (hT : Tb e base w bs st (.slice a n c) (vals ++ [x])) (hok : ¬ ok bs) (hbb : bs < base) :
  Fd ok (w.setCell ⟨bs, 7, none⟩ (.slice a vals.length c)) bs t ar due fx ∧ Tb e base (w.setCell ⟨bs, 7, none⟩ (.slice a vals.length c)) bs st (.slice a vals.length c) vals ∧ vals.length + 1 ≤ c ∧ n = vals.length + 1 ∧ ∃ g, a = some ⟨g, 0, none⟩ := by
 obtain ⟨c6, c7, f6, f7, hB⟩ := hT
 obtain ⟨h1, h2, h3, g, rfl⟩ := bl_cut hB
 refine ⟨hF.set (by omega) hok, ⟨(World.cell?_setCell_other _ _ _ _ (by simp)).trans c6, World.cell?_setCell_same _ _ _ c7, (World.frozen?_setCell _ _ _ _).trans f6, (World.frozen?_setCell _ _ _ _).trans f7, ?_⟩, h2, h3, g, rfl⟩
 exact bl_int_same h1 (fun b hb => Below.heap_setCell _ _ _ _ (by have := h1.ge hb; simp; omega)) (by simp [World.setCell])
set_option maxHeartbeats 6400000 in
set_option maxRecDepth 100000 in
theorem search_any {t : Tpl} {ar : Int} {due : List (List (Int × List Int))} {fx : List Int} (hT : tplOk t) {s N : Nat} (hs : t.1 = s) (hN : N ≤ 64) (hdl : due.length = N) (hD : ldueOk t due) (hd3 : ∀ d ∈ due, d.length ≤ 1000000) (hfx : fx.length = N) (g : Nat) (caps : Array Value) (eg : ∀ args w, (callFunc g args).run Tryz.prog w = .ok (.enter g args) w)
  (yc : List (List Int) → Int) (I : List (List Int) → (Nat → Prop) → World → Prop) (hY : Yf Tryz.prog ar g caps yc I) (bs base : Nat) (ok : Nat → Prop) (hbb : bs < base) (hok : ∀ k, ok k → k < base ∧ k ≠ bs) :
  ∀ (m : Nat) (w : World) (v : Value) (vals : List Int) (st : Nat) (told : List (List Int)) (O : Nat → Prop), vals.length + m = N → (∀ a ∈ vals, 0 ≤ a ∧ a ≤ t.1 - 1) → Fd ok w bs t ar due fx → Tb 2 base w bs st v vals → I told O w → (∀ k, ok k → ¬ O k) → ¬ O bs → (∀ k, v.ownBlock = some k → ¬ O k) → st ≤ 6000 → told.length ≤ st + 1 → base ≤ w.heap.size →
   Calls Tryz.prog 58 #[.pointer (some ⟨bs, 0, none⟩), .func (.func g) #[] caps] w fun e w' => e = .returned (.int .i64 (srch s (goesF t due) fx yc m vals (0, st, told)).1) ∧
    SrR 2 base ok bs t ar due fx I w v O vals (srch s (goesF t due) fx yc m vals (0, st, told)) w' := by
 have HT := Lib.hid hT
 have HD := Lib.hid hD
 have HD3 := Lib.hid hd3
 have HY := Lib.hid hY
 have HOK := Lib.hid hok
 have hs4 := hT.1
 unfold sizeOk at hs4
 have hs41 : 1 ≤ s ∧ s ≤ 4 := by omega
 clear hT hD hd3 hY hok hs4
 intro m
 induction m with
 | zero =>
  intro w v vals st told O hlen hin hF hTb hI hokO hbO hvO hst htl hbw
  have HF := Lib.hid hF
  have HTB := Lib.hid hTb
  obtain ⟨hbs, v3, v4, v5, c0, c2, c3, c4, c5, -, -, hfd⟩ := hF
  obtain ⟨c6, c7, f6, f7, hBl⟩ := hTb
  obtain ⟨va, vc, rfl⟩ := rd_slice (hBl.fr (by unfold capMax; omega)).rd
  obtain ⟨xa, xc, rfl⟩ := rdP_slice hfd
  have HV := Lib.hid (hBl.fr (by unfold capMax; omega)).rd
  have HI := Lib.hid hI
  have HOO := Lib.hid hokO
  have HVO := Lib.hid hvO
  have hl : vals.length = N := by omega
  rw [show srch s (goesF t due) fx yc 0 vals (0, st, told) = (yc (told ++ [vals]), st, told ++ [vals]) from rfl]
  simp only []
  rw [hl] at c7 HV ⊢
  rw [hfx] at c5
  have hbOH := Lib.hid hbO
  clear hI hBl hokO hvO hin hfd c0 c3 c4 c6 f6 f7 hbO
  go_enter Tryz.func58, Tryz.ntmps58
  go_wp2_with fail
  refine wp_region_T (fun w' => w'.cell? ⟨bs, 2, none⟩ = some (.int .i64 ar) ∧ w'.cell? ⟨bs, 7, none⟩ = some (.slice va N vc)) [11, 12] (by kernel_rfl) ⟨c2, c7⟩ (fun hHeld => ?_)
  refine wpAnyT_take (i := 0) (v := ?_) rfl (by kernel_rfl) (fun _ _ _ h => h) (Or.inl ⟨by rfl, ?_⟩) (by assumption) ?_
  rotate_left
  ·(intro w hSw; (try dsimp only at hSw); go_simp <;> with_reducible rfl)
  go_simp
  refine wpAnyT_take (i := 1) (v := ?_) rfl (by kernel_rfl) (fun _ _ _ h => h) (Or.inl ⟨by rfl, ?_⟩) (by assumption) ?_
  rotate_left
  ·(intro w hSw; (try dsimp only at hSw); go_simp <;> with_reducible rfl)
  go_simp
  refine wpAnyT_take (i := 2) (v := ?_) rfl (by kernel_rfl) (fun _ _ _ h => h) (Or.inl ⟨by rfl, ?_⟩) (by assumption) ?_
  rotate_left
  ·(intro w hSw; (try dsimp only at hSw); go_simp <;> with_reducible rfl)
  go_simp
  refine wpAnyT_take (i := 3) (v := ?_) rfl (by kernel_rfl) (fun _ _ _ h => h) (Or.inl ⟨by rfl, ?_⟩) (by assumption) ?_
  rotate_left
  ·(intro w hSw; (try dsimp only at hSw); go_simp <;> with_reducible rfl)
  go_simp
  refine wpAnyT_take (i := 4) (v := ?_) rfl (by kernel_rfl) (fun _ _ _ h => h) (Or.inl ⟨by rfl, ?_⟩) (by assumption) ?_
  rotate_left
  ·(intro w hSw; (try dsimp only at hSw); go_simp <;> with_reducible rfl)
  go_simp
  refine wpAnyT_take (i := 5) (v := ?_) rfl (by kernel_rfl) (fun _ _ _ h => h) (Or.inl ⟨by rfl, ?_⟩) (by assumption) ?_
  rotate_left
  ·(intro w hSw; (try dsimp only at hSw); go_simp <;> with_reducible rfl)
  go_simp
  refine wpAnyT_take (i := 6) (v := ?_) rfl (by kernel_rfl) (fun _ _ _ h => h) (Or.inl ⟨by rfl, ?_⟩) (by assumption) ?_
  rotate_left
  ·(intro w hSw; (try dsimp only at hSw); go_simp <;> with_reducible rfl)
  go_simp
  refine wpAnyT_take (i := 7) (v := ?_) rfl (by kernel_rfl) (fun _ _ _ h => h) (Or.inl ⟨by rfl, ?_⟩) (by assumption) ?_
  rotate_left
  ·(intro w hSw; (try dsimp only at hSw); go_simp <;> with_reducible rfl)
  go_simp
  refine wpAnyT_take (i := 8) (v := ?_) rfl (by kernel_rfl) (fun _ _ _ h => h) (Or.inl ⟨by rfl, ?_⟩) (by assumption) ?_
  rotate_left
  ·(intro w hSw; (try dsimp only at hSw); go_simp <;> with_reducible rfl)
  go_simp
  refine wpAnyT_one (i := 9) rfl (by kernel_rfl) (fun K hK => ?_)
  go_simp
  go_at_call 89
  refine (Clone_any _ (HV.out.below bD) (by omega)).mono ?_
  rintro e w1 ⟨u, rfl, hf, hb1⟩
  have hb1' : Below w.heap.size w w1 := bthen bD hb1
  obtain ⟨ua, un, uc, rfl⟩ := ex_slice hf
  have HFR : Hid (intsT.Fr w.heap.size w1 [.slice ua un uc] vals) := hf
  replace c2 := (cellB hb1' (by omega)).trans c2
  replace c7 := (cellB hb1' (by omega)).trans c7
  clear hf hb1
  dsimp only
  refine hK.out _ _ ⟨c2, c7⟩ (fun hHeld => ?_)
  clear hK K
  refine wpAnyT_one (i := 10) rfl (by kernel_rfl) (fun K hK => ?_)
  go_simp
  refine hK.out _ _ ⟨c2, c7⟩ (fun hHeld => ?_)
  clear hK K
  refine wpAnyT_last (i := 11) rfl (by kernel_rfl) (by kernel_rfl) (fun K hK => ?_)
  go_simp
  refine (HY.out.step HI.out hb1' HFR.out (by omega) (by omega)).mono ?_
  rintro e w2 ⟨rfl, O', hI', ht, hO'⟩
  have HI2 := Lib.hid hI'
  have HO := Lib.hid hO'
  have HTC : Hid (TchP O w w2) := (TchP.of_below hb1' O).then ht (fun k _ hk => hk)
  have HW1 := Lib.hid (fun k (hk : k < w.heap.size) (hn : ¬ O k) => HTC.out.block k hk hn)
  clear hI' ht hO'
  dsimp only
  refine hK.out _ _ ?_
  clear hK K
  refine wpAnyT_last (i := 12) rfl (by kernel_rfl) (by kernel_rfl) (fun K hK => ?_)
  go_simp
  refine hK.out _ _ ?_
  clear hK K
  refine wpAnyT_done (by kernel_rfl) ?_ _
  go_simp
  go_wp2_with fail
  go_ret
  refine ⟨rfl, SrR.mk (.slice va N vc) O' ?_ ?_ HI2.out HO.out (fun k hk => ⟨fun hm => ?_, .inl hk⟩) (HTC.out.mono (fun k _ h => .inl h))⟩
  ·exact HF.out.tchP HTC.out (fun k _ hk => HOO.out k hk) hbOH.out
  ·rw [← hl]
   exact HTB.out.same (HTC.out.block bs hbs hbOH.out) (fun q hq => HTC.out.block q (HTB.out.2.2.2.2.lt_top hq) (HVO.out q hq)) HTC.out.size
  ·rcases HO.out k hm with h | h
   ·exact HVO.out k (by rw [hl]; exact hk) h
   ·have := HTB.out.2.2.2.2.lt_top (g := k) (by rw [hl]; exact hk)
    omega
 | succ m ih =>
  intro w v vals st told O hlen hin hF hTb hI hokO hbO hvO hst htl hbw
  have HF := Lib.hid hF
  have HTB := Lib.hid hTb
  obtain ⟨hbs, v3, v4, v5, c0, c2, c3, c4, c5, -, -, hfd⟩ := hF
  obtain ⟨c6, c7, f6, f7, hBl⟩ := hTb
  obtain ⟨va, vc, rfl⟩ := rd_slice (hBl.fr (by unfold capMax; omega)).rd
  have HI := Lib.hid hI
  have HOO := Lib.hid hokO
  have HVO := Lib.hid hvO
  have HIN := Lib.hid hin
  have HIH := Lib.hid ih
  have hbOH := Lib.hid hbO
  have hl : vals.length < N := by omega
  have hne : ((vals.length : Int) == (N : Int)) = false := by simp; omega
  have hatf : vals.length < fx.length := by omega
  obtain ⟨_, _, hx, -, hxe⟩ := slice_exP hfd
  obtain rfl : v5 = _ := by simpa using hx
  obtain ⟨xb, xo, rfl, hxb, hxok, hxc⟩ := hxe.2 (by omega)
  obtain ⟨cs, ⟨fpc, ⟨rfl, hIx, _⟩, _⟩, hxc⟩ := hxc vals.length hatf
  have cx := hxc 0 (by simp)
  simp only [Ty.int, Nat.mul_one, Nat.add_zero, List.getElem_cons_zero] at cx
  rw [hfx] at c5
  rw [srch_succ]
  rw [hs] at c0
  clear hI hBl hokO hvO hfd c3 c4 hbO hxe hxc
  clear hin ih
  go_enter Tryz.func58, Tryz.ntmps58
  go_wp2_with fail
  go_loopw [37] (fun i wr => ∃ (k : Nat) (v' : Value) (O' : Nat → Prop), k ≤ s ∧ i = .int .i64 k ∧ (srchTo s (goesF t due) fx yc m vals k (0, st, told)).1 = 0 ∧ Fd ok wr bs t ar due fx ∧ Tb 2 base wr bs (srchTo s (goesF t due) fx yc m vals k (0, st, told)).2.1 v' vals ∧
   I (srchTo s (goesF t due) fx yc m vals k (0, st, told)).2.2 O' wr ∧ (∀ q, O' q → O q ∨ w.heap.size ≤ q) ∧ (∀ q, v'.ownBlock = some q → ¬ O' q ∧ ((Value.slice va vals.length vc).ownBlock = some q ∨ w.heap.size ≤ q)) ∧ TchP (fun q => O q ∨ q = bs ∨ (Value.slice va vals.length vc).ownBlock = some q) w wr) (fun i _ => s - (intOf i).toNat)
  case atStart => exact ⟨0, _, O, Nat.zero_le _, rfl, rfl, HF.out, HTB.out, HI.out, fun q hq => .inl hq, fun q hq => ⟨HVO.out q hq, .inl hq⟩, TchP.refl _ _⟩
  case round =>
   obtain ⟨k, v', O', hk, rfl, hz0, hF', hTb', hI', hO', hv', ht'⟩ := hrel
   have HF2 := Lib.hid hF'
   have HTB2 := Lib.hid hTb'
   have HI2 := Lib.hid hI'
   have HO2 := Lib.hid hO'
   have HV2 := Lib.hid hv'
   have HTC := Lib.hid ht'
   have HZ0 := Lib.hid hz0
   have hzr := ht'.size
   obtain ⟨hst', htl'⟩ : (srchTo s (goesF t due) fx yc m vals k (0, st, told)).2.1 ≤ 6000 ∧ (srchTo s (goesF t due) fx yc m vals k (0, st, told)).2.2.length ≤ (srchTo s (goesF t due) fx yc m vals k (0, st, told)).2.1 + 1 := by
    have h1 := srchTo_steps (s := s) (okT := goesF t due) (fx := fx) (yc := yc) (m := m) (vals := vals) (k := k) (r := (0, st, told)) hst
    have h2 := (srchTo_told (s := s) (okT := goesF t due) (fx := fx) (yc := yc) (m := m) (vals := vals) (k := k) (r := (0, st, told))).1
    simp only at h2
    omega
   have HSC := Lib.hid (srchTo_succ (s := s) (okT := goesF t due) (fx := fx) (yc := yc) (m := m) (vals := vals) (k := k) (r := (0, st, told)))
   have HST : Hid ((srchTo s (goesF t due) fx yc m vals (k + 1) (0, st, told)).1 ≠ 0 → k < s → srchTo s (goesF t due) fx yc m vals s (0, st, told) = srchTo s (goesF t due) fx yc m vals (k + 1) (0, st, told)) := fun h hk => srchTo_stop h (by omega)
   generalize hR : srchTo s (goesF t due) fx yc m vals k (0, st, told) = R at *
   obtain ⟨rc, rst, rtold⟩ := R
   simp only at hst' htl' HTB2 HI2 HZ0 hz0
   clear hF' hTb' hI' hO' hv' ht'
   by_cases hkl : k < s
   ·obtain rfl : rc = 0 := HZ0.out
    obtain ⟨hbs', _, _, v5', -, -, -, -, c5', -, -, hfd'⟩ := HF2.out
    obtain ⟨_, _, hx, -, -, hxe⟩ := slice_exP hfd'
    obtain rfl : v5' = _ := by simpa using hx
    obtain ⟨xb, xo, rfl, hxb, hxok, hxc⟩ := hxe (by omega)
    obtain ⟨cs, ⟨fpc, ⟨rfl, hIx, _⟩, _⟩, hxc⟩ := hxc vals.length hatf
    have cx := hxc 0 (by simp)
    simp only [Ty.int, Nat.mul_one, Nat.add_zero, List.getElem_cons_zero] at cx
    rw [hfx] at c5'
    have HSK := Lib.hid (skip_at (a := (k : Int)) hatf)
    generalize fx[vals.length] = x at cx HSK
    obtain ⟨c6', c7', f6', f7', hBl'⟩ := HTB2.out
    obtain ⟨va', vc', rfl⟩ := rd_slice (hBl'.fr (by unfold capMax; omega)).rd
    have HBL := Lib.hid hBl'
    have HRE := Lib.hid hR
    obtain ⟨wv, rfl⟩ : ∃ wv : World, wv = wr := ⟨_, rfl⟩
    clear hxe hxc hfd' hIx hBl' hR hz0 c0 c2 c5 c6 c7 f6 f7
    go_upto_region 7 with fail
    go_cut [58] from 40 to 57 (fun v58 wx => v58 = .bool (skipB fx vals.length k) ∧ wv = wx)
    case rest =>
     obtain ⟨rfl, rfl⟩ := hcut
     cases hsk : skipB fx vals.length k
     ·cases hb : ((rst : Int) == 6000)
      ·have hne6 : rst ≠ 6000 := by intro e; rw [e] at hb; exact absurd hb (by decide)
       have hst6 : rst + 1 ≤ 6000 := by omega
       go_upto_region 11 with fail
       have HB1 : Hid (Bl Ty.int 2 base wv.heap.size (wv.setCell ⟨bs, 6, none⟩ (.int .i64 ((rst : Int) + 1))) (.slice va' vals.length vc') vals) := bl_int_same HBL.out (fun b hb => Below.heap_setCell _ _ _ _ (by have := HBL.out.ge hb; simp; omega)) (Nat.le_refl _)
       have hnb : ¬ O' bs := fun h => by
        rcases HO2.out bs h with h | h
        ·exact hbOH.out h
        ·omega
       have HOB : Hid (¬ ok bs) := fun h => (HOK.out bs h).2 rfl
       have HVB : Hid ((Value.slice va' vals.length vc').ownBlock ≠ some bs) := fun h => by have := HBL.out.ge h; omega
       have HF1 : Hid (Fd ok (wv.setCell ⟨bs, 6, none⟩ (.int .i64 ((rst : Int) + 1))) bs t ar due fx) := HF2.out.set (by omega) HOB.out
       have hs1 : TchP (fun q => q = bs) wv (wv.setCell ⟨bs, 6, none⟩ (.int .i64 ((rst : Int) + 1))) := TchP.set rfl
       have hzz : (wv.setCell ⟨bs, 6, none⟩ (.int .i64 ((rst : Int) + 1))).heap.size ≤ wv.heap.size := by simp [World.setCell]
       have HI1 : Hid (I rtold O' (wv.setCell ⟨bs, 6, none⟩ (.int .i64 ((rst : Int) + 1)))) := HY.out.stable HI2.out (fun q hq ho => hs1.block q hq (fun e => hnb (e ▸ ho))) hs1.size
       have d6 : (wv.setCell ⟨bs, 6, none⟩ (.int .i64 ((rst : Int) + 1))).cell? ⟨bs, 6, none⟩ = some (.int .i64 ((rst : Int) + 1)) := World.cell?_setCell_same _ _ _ c6'
       have d7 : (wv.setCell ⟨bs, 6, none⟩ (.int .i64 ((rst : Int) + 1))).cell? ⟨bs, 7, none⟩ = some (.slice va' vals.length vc') := (World.cell?_setCell_other _ _ _ _ (by simp)).trans c7'
       have e6 : (wv.setCell ⟨bs, 6, none⟩ (.int .i64 ((rst : Int) + 1))).frozen? ⟨bs, 6, none⟩ = false := (World.frozen?_setCell _ _ _ _).trans f6'
       have e7 : (wv.setCell ⟨bs, 6, none⟩ (.int .i64 ((rst : Int) + 1))).frozen? ⟨bs, 7, none⟩ = false := (World.frozen?_setCell _ _ _ _).trans f7'
       generalize wv.setCell ⟨bs, 6, none⟩ (.int .i64 ((rst : Int) + 1)) = w1 at *
       have hz1 := hs1.size
       have hbs1 : bs < w1.heap.size := by omega
       have hIk : I64 (k : Int) := I64.small (by omega) (by omega)
       have HT1 : Hid (TchP (fun q => O q ∨ q = bs ∨ (Value.slice va vals.length vc).ownBlock = some q) w w1) := HTC.out.then hs1 (fun q _ h => .inr (.inl h))
       have HNB := Lib.hid hnb
       have HSKF := Lib.hid hsk
       clear c6' c7' f6' f7' c5' cx hnb hsk
       go_wp2_with (at_builtin; go_loud (refine wpList_push (E := Ty.int) _ rfl _ _ 38 2 rfl elInt rfl (HB1.out.below bA (by omega)) rfl news1 (fr_int hIk) (by omega) (by decide) (by omega) (by first | (simp; done) | (simp; omega)) ?_; intro v5 w5 hB5 hg5 hown; obtain ⟨a5, n5, c5, rfl⟩ := ex_slice (hB5.fr (by rw [List.length_append]; unfold capMax; simp only [List.length_singleton]; omega)); have i7 := (grown_cell' (i := 7) hg5 (show bs < _ by first | (simp; done) | (simp; omega)) HVB.out).trans ((cellB (bA (w := w1)) hbs1).trans d7); have im := (World.frozen?_of_block (a := ⟨bs, 7, none⟩) (hg5.block bs (by first | (simp; done) | (simp; omega)) (fun e => HVB.out e.symm))).trans ((frozenB (bA (w := w1)) hbs1).trans e7)); have i6 := (grown_cell' (i := 6) hg5 (show bs < _ by first | (simp; done) | (simp; omega)) HVB.out).trans ((cellB (bA (w := w1)) hbs1).trans d6); have i8 := (World.frozen?_of_block (a := ⟨bs, 6, none⟩) (hg5.block bs (by first | (simp; done) | (simp; omega)) (fun e => HVB.out e.symm))).trans ((frozenB (bA (w := w1)) hbs1).trans e6))
       have hla : (w1.alloc (.cells #[.int .i64 (k : Int)] 2)).heap.size = w1.heap.size + 1 := by simp
       have hown6 : (Value.slice a5 n5 c5).ownBlock = (Value.slice va' vals.length vc').ownBlock ∨ (Value.slice a5 n5 c5).ownBlock = some (w1.alloc (.cells #[.int .i64 (k : Int)] 2)).heap.size := hown
       have hg6 : (w1.alloc (.cells #[.int .i64 (k : Int)] 2)).grownBy w5 (Value.slice va' vals.length vc').ownBlock := hg5
       have hOWN : ∀ q, (Value.slice a5 n5 c5).ownBlock = some q → (Value.slice va' vals.length vc').ownBlock = some q ∨ w1.heap.size ≤ q := fun q hq => by
        rcases hown6 with h | h
        ·exact .inl (by rw [← h]; exact hq)
        ·rw [h] at hq
         simp at hq
         exact .inr (by omega)
       have HOWN := Lib.hid hOWN
       have hV5 : (Value.slice a5 n5 c5).ownBlock ≠ some bs := fun h => by
        rcases hOWN bs h with h | h
        ·exact HVB.out h
        ·omega
       have ht5 : TchP (fun q => (Value.slice va' vals.length vc').ownBlock = some q) w1 w5 := (TchP.of_below bA _).then (TchP.grown hg6 (fun q h => h)) (fun q _ h => h)
       have ht6 : TchP (fun q => q = bs ∨ (Value.slice va' vals.length vc').ownBlock = some q) w1 (w5.setCell ⟨bs, 7, none⟩ (.slice a5 n5 c5)) := (ht5.mono (fun q _ h => .inr h)).then (TchP.set (O := fun q => q = bs) rfl) (fun q _ h => .inl h)
       have HF6 : Hid (Fd ok (w5.setCell ⟨bs, 7, none⟩ (.slice a5 n5 c5)) bs t ar due fx) := (HF1.out.tchP ht5 (fun q _ hq h => by have := HBL.out.ge h; have := (HOK.out q hq).1; omega) HVB.out).set (by omega) HOB.out
       have HI6 : Hid (I rtold O' (w5.setCell ⟨bs, 7, none⟩ (.slice a5 n5 c5))) := HY.out.stable HI1.out (fun q hq ho => ht6.block q hq (fun h => by
        rcases h with h | h
        ·exact HNB.out (h ▸ ho)
        ·exact (HV2.out q h).1 ho)) ht6.size
       have HTB6 : Hid (Tb 2 base (w5.setCell ⟨bs, 7, none⟩ (.slice a5 n5 c5)) bs (rst + 1) (.slice a5 n5 c5) (vals ++ [(k : Int)])) := by
        refine ⟨(World.cell?_setCell_other _ _ _ _ (by simp)).trans ?_, World.cell?_setCell_same _ _ _ i7, (World.frozen?_setCell _ _ _ _).trans i8, (World.frozen?_setCell _ _ _ _).trans im, bl_int_same hB5 (fun b hb => Below.heap_setCell _ _ _ _ (fun e => hV5 (by rw [hb]; simp at e; rw [e]))) (by simp [World.setCell])⟩
        rw [i6]
        exact congrArg some (by go_num)
       have HT6 : Hid (TchP (fun q => O q ∨ q = bs ∨ (Value.slice va vals.length vc).ownBlock = some q) w (w5.setCell ⟨bs, 7, none⟩ (.slice a5 n5 c5))) := HT1.out.then ht6 (fun q hq h => by
        rcases h with h | h
        ·exact .inr (.inl h)
        ·rcases (HV2.out q h).2 with h | h
         ·exact .inr (.inr h)
         ·omega)
       have hz6 := ht6.size
       clear hB5 hg5 hown hg6 hown6 hOWN hV5 ht5 ht6 i6 i7 i8 im hla d6 d7 e6 e7
       generalize w5.setCell ⟨bs, 7, none⟩ (.slice a5 n5 c5) = w6 at *
       have hls : (vals ++ [(k : Int)]).length = vals.length + 1 := by simp
       have HLS := Lib.hid hls
       have HINK : Hid (∀ a ∈ vals ++ [(k : Int)], 0 ≤ a ∧ a ≤ t.1 - 1) := fun a ha => by
        rcases List.mem_append.1 ha with ha | ha
        ·exact HIN.out a ha
        ·rw [List.mem_singleton.1 ha]; omega
       have HRD6 : Hid (intsT.Rd w6 [.slice a5 n5 c5] (vals ++ [(k : Int)])) := (HTB6.out.2.2.2.2.fr (by unfold capMax; omega)).rd
       clear hls
       refine (fgoes_any w6 HF6.out HTB6.out.2.1 HRD6.out HT.out HD.out HINK.out (by have := HLS.out; omega) (by have := HLS.out; omega) (by omega) HD3.out).mono ?_
       rintro e w7 ⟨rfl, hb7⟩
       have hz7 := hb7.size
       have HF7 := Lib.hid (HF6.out.below hb7)
       have HTB7 := Lib.hid (HTB6.out.below HF6.out.1 hb7)
       have HI7 : Hid (I rtold O' w7) := HY.out.stable HI6.out (fun q hq _ => hb7.block q hq) hz7
       have HT7 : Hid (TchP (fun q => O q ∨ q = bs ∨ (Value.slice va vals.length vc).ownBlock = some q) w w7) := HT6.out.then (TchP.of_below hb7 (fun _ => False)) (fun q _ h => h.elim)
       cases hg : goesF t due (vals ++ [(k : Int)])
       ·have HN : Hid (srchTo s (goesF t due) fx yc m vals (k + 1) (0, st, told) = (0, rst + 1, rtold)) := by unfold Hid; rw [HSC.out, step_no rfl HSKF.out hne6 hg]
        obtain ⟨hF8, hT8, hc8, rfl, g8, rfl⟩ := tb_cut HF7.out HTB7.out HOB.out hbb
        have HF8 := Lib.hid hF8
        have HTB8 := Lib.hid hT8
        have ht8 : TchP (fun q => q = bs) w7 (w7.setCell ⟨bs, 7, none⟩ (.slice (some ⟨g8, 0, none⟩) vals.length c5)) := TchP.set rfl
        have HI8 : Hid (I rtold O' (w7.setCell ⟨bs, 7, none⟩ (.slice (some ⟨g8, 0, none⟩) vals.length c5))) := HY.out.stable HI7.out (fun q hq ho => ht8.block q hq (fun e => HNB.out (e ▸ ho))) ht8.size
        have HT8 : Hid (TchP (fun q => O q ∨ q = bs ∨ (Value.slice va vals.length vc).ownBlock = some q) w (w7.setCell ⟨bs, 7, none⟩ (.slice (some ⟨g8, 0, none⟩) vals.length c5))) := HT7.out.then ht8 (fun q _ h => .inr (.inl h))
        obtain ⟨-, j7, -, j8, -⟩ := HTB7.out
        clear hF8 hT8 ht8 hg
        go_wp2_with fail
        go_roundw
        case rel => exact ⟨k + 1, _, O', by omega, by go_num, by rw [HN.out], HF8.out, by rw [HN.out]; exact HTB8.out, by rw [HN.out]; exact HI8.out, HO2.out, fun q hq => by
          rcases HOWN.out q hq with h | h
          ·exact HV2.out q h
          ·exact ⟨fun ho => by have := HY.out.lt HI1.out q ho; omega, .inr (by omega)⟩, HT8.out⟩
        case measure => simp [intOf]; omega
       ·have HN : Hid (srchTo s (goesF t due) fx yc m vals (k + 1) (0, st, told) = srch s (goesF t due) fx yc m (vals ++ [(k : Int)]) (0, rst + 1, rtold)) := by unfold Hid; rw [HSC.out, step_yes rfl HSKF.out hne6 hg]
        clear hg
        go_wp2_with fail
        refine (HIH.out w7 _ (vals ++ [(k : Int)]) (rst + 1) rtold O' (by have := HLS.out; omega) HINK.out HF7.out HTB7.out HI7.out (fun q hq ho => by
          rcases HO2.out q ho with h | h
          ·exact HOO.out q hq h
          ·have := (HOK.out q hq).1; omega) HNB.out (fun q hq => by
          rcases HOWN.out q hq with h | h
          ·exact (HV2.out q h).1
          ·exact fun ho => by have := HY.out.lt HI1.out q ho; omega) (by omega) (by omega) (by omega)).mono ?_
        rintro e w8 ⟨rfl, hSr⟩
        obtain ⟨v8, O8, hF8, hTb8, hI8, hO8, hv8, ht8⟩ := hSr
        have hz8 := ht8.size
        generalize srch s (goesF t due) fx yc m (vals ++ [(k : Int)]) (0, rst + 1, rtold) = R8 at *
        obtain ⟨rc8, st8, L8⟩ := R8
        simp only at hTb8 hI8
        obtain ⟨va8, vc8, rfl⟩ := rd_slice (hTb8.2.2.2.2.fr (by have := HLS.out; unfold capMax; omega)).rd
        obtain ⟨hF9, hT9, hc9, hn9, g9, rfl⟩ := tb_cut hF8 hTb8 HOB.out hbb
        have HF9 := Lib.hid hF9
        have HTB9 := Lib.hid hT9
        have HO8 := Lib.hid hO8
        have HV8 := Lib.hid hv8
        have hnb8 : ¬ O8 bs := fun h => by
         rcases hO8 bs h with h | h
         ·exact HNB.out h
         ·omega
        have ht9 : TchP (fun q => q = bs) w8 (w8.setCell ⟨bs, 7, none⟩ (.slice (some ⟨g9, 0, none⟩) vals.length vc8)) := TchP.set rfl
        have HI9 : Hid (I L8 O8 (w8.setCell ⟨bs, 7, none⟩ (.slice (some ⟨g9, 0, none⟩) vals.length vc8))) := HY.out.stable hI8 (fun q hq ho => ht9.block q hq (fun e => hnb8 (e ▸ ho))) ht9.size
        have HT8 : Hid (TchP (fun q => O q ∨ q = bs ∨ (Value.slice va vals.length vc).ownBlock = some q) w w8) := HT7.out.then ht8 (fun q hq h => by
         rcases h with h | h | h
         ·rcases HO2.out q h with h | h
          ·exact .inl h
          ·omega
         ·exact .inr (.inl h)
         ·rcases HOWN.out q h with h | h
          ·rcases (HV2.out q h).2 with h | h
           ·exact .inr (.inr h)
           ·omega
          ·omega)
        have HT9 : Hid (TchP (fun q => O q ∨ q = bs ∨ (Value.slice va vals.length vc).ownBlock = some q) w (w8.setCell ⟨bs, 7, none⟩ (.slice (some ⟨g9, 0, none⟩) vals.length vc8))) := HT8.out.then ht9 (fun q _ h => .inr (.inl h))
        have HO9 : Hid (∀ q, O8 q → O q ∨ w.heap.size ≤ q) := fun q hq => by
         rcases hO8 q hq with h | h
         ·exact HO2.out q h
         ·exact .inr (by omega)
        have HV9 : Hid (∀ q, (Value.slice (some ⟨g9, 0, none⟩) vals.length vc8).ownBlock = some q → ¬ O8 q ∧ ((Value.slice va vals.length vc).ownBlock = some q ∨ w.heap.size ≤ q)) := fun q hq => by
         obtain ⟨h1, h2⟩ := hv8 q hq
         refine ⟨h1, ?_⟩
         rcases h2 with h | h
         ·rcases HOWN.out q h with h | h
          ·exact (HV2.out q h).2
          ·exact .inr (by omega)
         ·exact .inr (by omega)
        obtain ⟨-, j7, -, j8, -⟩ := hTb8
        rw [HLS.out] at j7
        simp only []
        clear hF8 hI8 hO8 hv8 ht8 hF9 hT9 ht9 hnb8 hn9
        cases hc : (rc8 != 0)
        ·have hc0 : rc8 = 0 := by simpa using hc
         have HN2 : Hid (srchTo s (goesF t due) fx yc m vals (k + 1) (0, st, told) = (0, st8, L8)) := by unfold Hid; rw [HN.out, hc0]
         clear hc0 HN
         go_wp2_with fail
         go_roundw
         case rel => exact ⟨k + 1, _, O8, by omega, by go_num, by rw [HN2.out], HF9.out, by rw [HN2.out]; exact HTB9.out, by rw [HN2.out]; exact HI9.out, HO9.out, HV9.out, HT9.out⟩
         case measure => simp [intOf]; omega
        ·have hc0 : rc8 ≠ 0 := by simpa using hc
         have HF7' : Hid (srchTo s (goesF t due) fx yc m vals s (0, st, told) = (rc8, st8, L8)) := by unfold Hid; rw [HST.out (by rw [HN.out]; exact hc0) hkl, HN.out]
         clear hc0
         go_wp2_with fail
         go_ret
         rw [HF7'.out]
         exact ⟨rfl, SrR.mk _ O8 HF9.out HTB9.out HI9.out HO9.out HV9.out HT9.out⟩
      ·have he6 : rst = 6000 := by have : (rst : Int) = 6000 := by simpa using hb
                                   omega
       have HN : Hid (srchTo s (goesF t due) fx yc m vals (k + 1) (0, st, told) = (7, rst, rtold)) := by unfold Hid; rw [HSC.out, step_bud rfl hsk he6]
       have HF7 : Hid (srchTo s (goesF t due) fx yc m vals s (0, st, told) = (7, rst, rtold)) := by unfold Hid; rw [HST.out (by rw [HN.out]; show (7 : Int) ≠ 0; decide) hkl, HN.out]
       clear hsk he6
       go_wp2_with fail
       go_ret
       rw [HF7.out]
       exact ⟨rfl, SrR.mk _ O' HF2.out HTB2.out HI2.out HO2.out HV2.out HTC.out⟩
     ·have HN : Hid (srchTo s (goesF t due) fx yc m vals (k + 1) (0, st, told) = (0, rst, rtold)) := by unfold Hid; rw [HSC.out, step_skip hsk]
      clear hsk
      go_wp2_with fail
      go_roundw
      case rel => exact ⟨k + 1, _, O', by omega, by go_num, by rw [HN.out], HF2.out, by rw [HN.out]; exact HTB2.out, by rw [HN.out]; exact HI2.out, HO2.out, HV2.out, HTC.out⟩
      case measure => simp [intOf]; omega
    cases h1 : decide (0 ≤ x)
    ·go_wp2_with fail
     go_meet
     case rel => exact ⟨by rw [HSK.out, h1]; rfl, rfl⟩
    ·go_wp2_with fail
     go_meet
     case rel => exact ⟨by rw [HSK.out, h1]; rfl, rfl⟩
   ·obtain rfl : k = s := by omega
    go_wp2_with fail
    go_ret
    rw [hR]
    exact ⟨ret_int HZ0.out.symm, SrR.mk v' O' HF2.out HTB2.out HI2.out HO2.out HV2.out HTC.out⟩
end Go.Proofs.YtajmjfbejfiipaaGreat
namespace Go.Proofs.YtajmjfbejfiipaaGreat
open Go.RowKit Go.Sort
/-- the lengths of the tables of operations -/
def tabN (N : Nat) : Prop := N = 1 ∨ N = 2 ∨ N = 3 ∨ N = 4 ∨ N = 8 ∨ N = 9 ∨ N = 16 ∨ N = 27 ∨ N = 64
theorem tabN_of {s : Int} {ar N : Nat} (hs : 1 ≤ s ∧ s ≤ 4) (har : 1 ≤ ar ∧ ar ≤ 3) (hN : s ^ ar = (N : Int)) : tabN N := by
 obtain ⟨q, rfl⟩ : ∃ q : Nat, s = q := ⟨s.toNat, by omega⟩
 have h : q ^ ar = N := by rw [← Int.natCast_pow] at hN; exact Int.ofNat.inj hN
 subst h
 unfold tabN
 rcases (show ar = 1 ∨ ar = 2 ∨ ar = 3 by omega) with rfl | rfl | rfl <;> rcases (show q = 1 ∨ q = 2 ∨ q = 3 ∨ q = 4 by omega) with rfl | rfl | rfl | rfl <;> decide
theorem tabN_bd {N : Nat} (h : tabN N) : 1 ≤ N ∧ N ≤ 64 := by unfold tabN at h; omega
set_option maxHeartbeats 1600000 in
theorem Mul64_one (N : Nat) (h : tabN N) (w : World) : Calls Tryz.prog 235 #[.int .u64 1, .int .u64 (N : Int)] w fun e w' => e = .returned (.tuple #[.int .u64 0, .int .u64 (N : Int)]) ∧ w = w' := by
 rcases h with rfl | rfl | rfl | rfl | rfl | rfl | rfl | rfl | rfl
 all_goals
  go_enter Tryz.func235, Tryz.ntmps235
  go_wp2
  go_ret2
  exact ⟨rfl, rfl⟩
set_option maxHeartbeats 1600000 in
theorem Mul_one (N : Nat) (h : tabN N) (w : World) : Calls Tryz.prog 205 #[.int .u64 1, .int .u64 (N : Int)] w fun e w' => e = .returned (.tuple #[.int .u64 0, .int .u64 (N : Int)]) ∧ w = w' := by
 go_enter Tryz.func205, Tryz.ntmps205
 go_wp2_with (go_at_call 235; refine (Mul64_one N h _).mono ?_; rintro e _ ⟨rfl, rfl⟩)
 go_ret2
 exact ⟨rfl, rfl⟩
theorem IR.heapAt {e base : Nat} {w : World} {g n : Nat} {L : List Int} (h : IR e base w g n n L) : w.heap[g]? = some (.cells (L.map (Value.int .i64)).toArray e (0, 0)) := by
 obtain ⟨h1, h2, h3, h4, h5⟩ := h
 rcases h5 with ⟨h6, _⟩ | ⟨g', cap, cur, hv, hg, hh, hn, hc, hcs, hL⟩
 ·simp at h6
 ·simp only [Value.slice.injEq, Option.some.injEq, Addr.mk.injEq, and_true, true_and] at hv
  obtain ⟨rfl, rfl⟩ := hv
  rw [hh]
  have : cur = (L.map (Value.int .i64)).toArray := by
   rw [← hL, List.take_of_length_le (by simp [hcs])]
  rw [this]
def mone (n N : Nat) : List Value := List.replicate n (Value.int .i64 (-1)) ++ List.replicate (N - n) (Value.int .i64 0)
theorem mone_len {n N : Nat} (h : n ≤ N) : (mone n N).length = N := by simp [mone]; omega
theorem mone_zero {N : Nat} : mone 0 N = (List.replicate N (0 : Int)).map (Value.int .i64) := by simp [mone]
theorem mone_full {N : Nat} : mone N N = List.replicate N (Value.int .i64 (-1)) := by simp [mone]
theorem mone_splice {n m N : Nat} (h : n + m ≤ N) : splice (mone n N) n (List.replicate m (Value.int .i64 (-1))) = mone (n + m) N := by
 unfold splice mone
 rw [List.take_append_of_le_length (by simp), List.take_of_length_le (by simp), List.drop_append, List.length_replicate, List.length_replicate, List.drop_of_length_le (by simp), List.nil_append, List.drop_replicate, ← List.append_assoc, List.replicate_append_replicate, show N - n - (n + m - n) = N - (n + m) by omega]
theorem mone_cell {w : World} {g n N : Nat} {t : TypeId} (hg : w.heap[g]? = some (.cells (mone n N).toArray t (0, 0))) {j : Nat} (hj : j < n) : w.cell? ⟨g, j, none⟩ = some (.int .i64 (-1)) := by
 simp [World.cell?, hg, mone, List.getElem?_append_left, hj]
theorem rep_pos {w1 : World} {b o g : Nat} (c1 : w1.cell? ⟨b, o, none⟩ = some (.int .i64 (-1))) : 0 < [Value.int .i64 (-1)].length → (some (⟨g, 0, none⟩ : Addr) = some ⟨g, 0, none⟩) ∧ ∃ ad, some (⟨b, o, none⟩ : Addr) = some ad ∧ ∀ j v, [Value.int .i64 (-1)][j]? = some v → w1.cell? (ad.add j) = some v :=
 fun _ => ⟨rfl, _, rfl, fun j v hj => by
  cases j with
  | zero => simp at hj; subst hj; simpa [Addr.add] using c1
  | succ j => simp at hj⟩
def RepR (w : World) (N : Nat) (e : Ending) (w' : World) : Prop := ∃ g, e = .returned (.slice (some ⟨g, 0, none⟩) N N) ∧ w.heap.size ≤ g ∧ w'.heap[g]? = some (.cells (mone N N).toArray 2 (0, 0)) ∧ Below w.heap.size w w'
set_option maxHeartbeats 3200000 in
set_option maxRecDepth 100000 in
theorem Repeat_any (w : World) {b o c N : Nat} (hb : b < w.heap.size) (hc : w.cell? ⟨b, o, none⟩ = some (.int .i64 (-1))) (hT : tabN N) :
  Calls Tryz.prog 145 #[.slice (some ⟨b, o, none⟩) 1 c, .int .i64 (N : Int)] w (RepR w N) := by
 have hN := tabN_bd hT
 have HT := Lib.hid hT
 have hw : IntKind.u64.wrap (N : Int) = N := by rw [IntKind.wrap_u64]; omega
 have hw2 : IntKind.i64.wrap (N : Int) = N := wrap_small (by omega) (by omega)
 have hno : decide ((N : Int) < 0) = false := by simp
 have hno2 : decide ((9223372036854775807 : Int) < (N : Int)) = false := by simp; omega
 have hmin : [Value.int .i64 (-1)].length = Nat.min 1 N := (Nat.min_eq_left hN.1).symm
 have hfit : 0 + [Value.int .i64 (-1)].length ≤ (mone 0 N).length := by rw [mone_len (Nat.zero_le _)]; exact hN.1
 have hone : ∀ v ∈ [Value.int .i64 (-1)], v.oneCell' = true := by intro v hv; rw [List.mem_singleton.1 hv]; rfl
 clear hT
 go_enter Tryz.func145, Tryz.ntmps145
 go_wp2_with (first | (go_at_call 205; refine (Mul_one N HT.out _).mono ?_; rintro e _ ⟨rfl, rfl⟩) | (refine wpList_mkI _ rfl _ _ 38 2 rfl Tryz.underlying38 infoInt w.heap.size N rfl rfl (by omega) (by decide) (by first | (simp; done) | omega) ?_; intro w1 hA hg1 hs1; have hb1 := below_of_grown hg1; have hh := hA.heapAt; have c1 := (hb1.cell (p := ⟨b, o, none⟩) hb).trans hc; rw [← mone_zero] at hh; have hpos := Lib.hid (rep_pos (g := w.heap.size) c1); clear hA hg1 hs1) | (with_reducible refine wpList_copy_splice rfl (.tmp 31) (.tmp 32) 38 38 rfl 2 Tryz.underlying38 (by kernel_rfl) (some ⟨w.heap.size, 0, none⟩) (some ⟨b, o, none⟩) N N 1 c rfl rfl w.heap.size 0 (mone 0 N) 2 hh [.int .i64 (-1)] hmin hpos.out hfit hone w.heap.size w hb1 (Nat.le_refl _) ?_; intro w2 hg2 hb2))
 have HG2 : Hid (w2.heap[w.heap.size]? = some (.cells (mone 1 N).toArray 2 (0, 0))) := by
  have h1 := hg2.out
  rw [show ([Value.int .i64 (-1)] : List Value) = List.replicate 1 (Value.int .i64 (-1)) from rfl, mone_splice (by omega)] at h1
  exact h1
 clear hg2 hh c1
 go_wp2_with fail
 go_loopw [8] (fun i wr => ∃ n : Nat, 1 ≤ n ∧ n ≤ N ∧ i = .int .i64 n ∧ wr.heap[w.heap.size]? = some (.cells (mone n N).toArray 2 (0, 0)) ∧ Below w.heap.size w wr) (fun i _ => N - (intOf i).toNat)
 case atStart => exact ⟨1, Nat.le_refl _, hN.1, by first | rfl | simp [goInt], HG2.out, hb2⟩
 case round =>
  obtain ⟨n, hn1, hnN, rfl, hg, hbe⟩ := hrel
  have HG := Lib.hid hg
  clear hg HG2
  by_cases hlt : n < N
  ·obtain ⟨m, hm⟩ : ∃ m, m = Nat.min n (N - n) := ⟨_, rfl⟩
   have hm1 : m ≤ n ∧ m ≤ N - n ∧ 1 ≤ m := by rw [hm]; refine ⟨Nat.min_le_left _ _, Nat.min_le_right _ _, ?_⟩; show 1 ≤ min n (N - n); omega
   have HM : Hid ((List.replicate m (Value.int .i64 (-1))).length = Nat.min n (N - n)) := by unfold Hid; rw [List.length_replicate, hm]
   have HSP := Lib.hid (mone_splice (n := n) (m := m) (N := N) (by omega))
   have HCE := Lib.hid (fun j (hj : j < n) => mone_cell (n := n) (N := N) HG.out hj)
   have HON : Hid (∀ v ∈ List.replicate m (Value.int .i64 (-1)), v.oneCell' = true) := fun v hv => by rw [List.eq_of_mem_replicate hv]; rfl
   have hne : ¬ (N = n) := by omega
   have hwr : IntKind.i64.wrap ((n : Int) + (m : Int)) = ((n + m : Nat) : Int) := by rw [wrap_small (by omega) (by omega)]; omega
   clear hm
   go_wp2_with fail
   refine wp_region_T (fun _ => True) [7] (by kernel_rfl) trivial (fun hHeld => ?_)
   refine wpAnyT_any (i := 0) (v := ?_) rfl (by kernel_rfl) (fun _ _ _ h => h) (Or.inl ⟨by rfl, ?_⟩) (by first | exact fun _ => by assumption | (intro hp; exact absurd hp (by rw [show pastB _ _ = true by kernel_rfl]; simp))) ?_
   rotate_left
   ·(intro w hSw; (try dsimp only at hSw); go_simp <;> with_reducible rfl)
   try simp only [Act.put]
   go_simp
   refine wpAnyT_take (i := 1) (v := ?_) rfl (by kernel_rfl) (fun _ _ _ h => h) (Or.inl ⟨by rfl, ?_⟩) (by assumption) ?_
   rotate_left
   ·(intro w hSw; (try dsimp only at hSw); go_simp <;> with_reducible rfl)
   go_simp
   refine wpAnyT_take (i := 2) (v := ?_) rfl (by kernel_rfl) (fun _ _ _ h => h) (Or.inl ⟨by rfl, ?_⟩) (by assumption) ?_
   rotate_left
   ·(intro w hSw; (try dsimp only at hSw); go_simp <;> with_reducible rfl)
   go_simp
   refine wpAnyT_take (i := 3) (v := ?_) rfl (by kernel_rfl) (fun _ _ _ h => h) (Or.inl ⟨by rfl, ?_⟩) (by assumption) ?_
   rotate_left
   ·(intro w hSw; (try dsimp only at hSw); go_simp <;> with_reducible rfl)
   go_simp
   refine wpAnyT_take (i := 4) (v := ?_) rfl (by kernel_rfl) (fun _ _ _ h => h) (Or.inl ⟨by rfl, ?_⟩) (by assumption) ?_
   rotate_left
   ·(intro w hSw; (try dsimp only at hSw); go_simp <;> with_reducible rfl)
   go_simp
   refine wpAnyT_take (i := 5) (v := ?_) rfl (by kernel_rfl) (fun _ _ _ h => h) (Or.inl ⟨by rfl, ?_⟩) (by assumption) ?_
   rotate_left
   ·(intro w hSw; (try dsimp only at hSw); go_simp <;> with_reducible rfl)
   go_simp
   refine wpAnyT_take (i := 6) (v := ?_) rfl (by kernel_rfl) (fun _ _ _ h => h) (Or.inl ⟨by rfl, ?_⟩) (by assumption) ?_
   rotate_left
   ·(intro w hSw; (try dsimp only at hSw); go_simp <;> with_reducible rfl)
   go_simp
   refine wpAnyT_last (i := 7) rfl (by kernel_rfl) (by kernel_rfl) (fun K hK => ?_)
   refine step_copy_splice rfl (.tmp 41) (.tmp 44) 38 38 rfl 2 Tryz.underlying38 (by kernel_rfl) (some ⟨w.heap.size, n, none⟩) (some ⟨w.heap.size, 0, none⟩) (N - n) (N - n) n N rfl rfl w.heap.size n (mone n N) 2 HG.out (List.replicate m (Value.int .i64 (-1))) HM.out (fun _ => ⟨rfl, _, rfl, fun j v hj => ?_⟩) (by rw [List.length_replicate, mone_len hnN]; omega) HON.out w.heap.size w (hbe.drew) (Nat.le_refl _) ?_
   ·rw [List.getElem?_replicate] at hj
    by_cases hjm : j < m
    ·rw [if_pos hjm] at hj
     obtain rfl := Option.some.inj hj
     have h1 := HCE.out j (by omega)
     cases j with
     | zero => simpa [Addr.add] using h1
     | succ j => simpa [Addr.add] using h1
    ·rw [if_neg hjm] at hj
     cases hj
   intro w4 hg4 hb4
   rw [HSP.out] at hg4
   simp only [List.length_replicate]
   refine hK.out _ _ ?_
   clear hK K
   refine wpAnyT_last (i := 8) rfl (by kernel_rfl) (by kernel_rfl) (fun K hK => ?_)
   go_simp
   refine hK.out _ _ ?_
   clear hK K
   refine wpAnyT_last (i := 9) rfl (by kernel_rfl) (by kernel_rfl) (fun K hK => ?_)
   go_simp
   refine hK.out _ _ ?_
   clear hK K
   refine wpAnyT_done (by kernel_rfl) ?_ _
   go_simp
   go_wp2_with fail
   go_roundw
   case rel => exact ⟨n + m, by omega, by omega, by first | rfl | go_num | simp [goInt, hwr], hg4.out, hb4⟩
   case measure => (clear hwr; simp [intOf]; omega)
  ·obtain rfl : n = N := by omega
   go_wp2_with fail
   go_ret
   exact ⟨_, rfl, Nat.le_refl _, HG.out, hbe⟩
end Go.Proofs.YtajmjfbejfiipaaGreat
namespace Go.Proofs.YtajmjfbejfiipaaGreat
open Go.RowKit Go.Sort
theorem cellsL_zero {s : Int} {ar : Nat} {r : Int × List (List Int)} {i : Int} : (cellsL s ar r i).take 0 = [] := List.take_zero
theorem fr_blk {α : Type} {E : Ty α} {base : Nat} {w : World} {b o n cap : Nat} {xs : List α} (h : (Ty.slice E).Fr base w [.slice (some ⟨b, o, none⟩) n cap] xs) (h0 : 0 < xs.length) : base ≤ b := by
 obtain ⟨fp, ⟨ad, cap', hv, _, _, h3⟩, _, h4, _⟩ := h
 rcases h3 with ⟨h3, _⟩ | ⟨_, b', o', fps, rfl, _, rfl, _⟩
 ·omega
 ·simp only [List.cons.injEq, Value.slice.injEq, Option.some.injEq, Addr.mk.injEq, and_true] at hv
  obtain ⟨⟨rfl, rfl⟩, -, -⟩ := hv
  exact h4 _ (List.mem_cons_self ..)
theorem col_at {ts : List (List Int)} {n ar : Nat} {i : Int} {p q dn : Nat} (hn : ts.length = n) (hq : q < (digL (n : Int) i ar).length) (hd : (digL (n : Int) i ar)[q] = (dn : Int)) (hdn : dn < ts.length) (hp : p < (ts[dn]).length) (hq' : q < (colL (picks ts ar i) p).length) : (colL (picks ts ar i) p)[q] = (ts[dn])[p] := by
 subst hn
 simp [colL, picks, hd, hdn, hp]
theorem picks_tups {s : Int} {ar : Nat} {r : Int × List (List Int)} {i : Int} (hr : relOk s r) (h0 : 0 < r.2.length) : tupsOk s (ar : Int) r.1.toNat (picks r.2 ar i) := by
 refine ⟨by rw [picks_len], fun u hu => ?_⟩
 obtain ⟨k, hk, rfl⟩ := List.mem_map.1 hu
 have hk2 := dig_mem (n := (r.2.length : Int)) (by omega) hk
 have hkl : k.toNat < r.2.length := by omega
 rw [List.getD_eq_getElem?_getD, List.getElem?_eq_getElem hkl]
 obtain ⟨h1, h2⟩ := (hr.2.2 k.toNat hkl).1
 have := hr.2.1
 exact ⟨by show (r.2[k.toNat]).length = r.1.toNat; omega, h2⟩
theorem cells_get {s : Int} {ar : Nat} {r : Int × List (List Int)} {i : Int} {p : Nat} (h : p < r.1.toNat) : (cellsL s ar r i).take p ++ [idxL s 0 (colL (picks r.2 ar i) p)] = (cellsL s ar r i).take (p + 1) := by
 have h' : p < (cellsL s ar r i).length := by rw [cells_len]; exact h
 rw [List.take_succ_eq_append_getElem h']
 simp [cellsL]
abbrev ZP := (Int × List Int) × (Int × Value)
def zF (Z : List ZP) (v : Nat) : List ZP := Z.filter fun z => topI z.1.2 == (v : Int)
theorem zF_yes {Z : List ZP} {z : ZP} {v : Nat} (h : topI z.1.2 = (v : Int)) : zF (Z ++ [z]) v = zF Z v ++ [z] := by
 unfold zF
 rw [List.filter_append]
 simp [h]
theorem zF_no {Z : List ZP} {z : ZP} {v : Nat} (h : topI z.1.2 ≠ (v : Int)) : zF (Z ++ [z]) v = zF Z v := by
 unfold zF
 rw [List.filter_append]
 simp [h]
theorem zF_fst {Z : List ZP} {v : Nat} : (zF Z v).map (·.1) = dueF (Z.map (·.1)) v := by
 unfold zF dueF
 rw [List.filter_map]
 rfl
theorem zF_mem {Z : List ZP} {v : Nat} {z : ZP} (h : z ∈ zF Z v) : z ∈ Z := (List.mem_filter.1 h).1
theorem zF_len {Z : List ZP} {v : Nat} : (zF Z v).length ≤ Z.length := List.length_filter_le _ _
/-- blocks of what is finished -/
def okN (base N : Nat) (us : Nat → Value) (vin : Value) (k : Nat) : Prop := base ≤ k ∧ (∀ v, v < N → (us v).ownBlock ≠ some k) ∧ vin.ownBlock ≠ some k
structure FinS (B : Ty (List Bool)) (eL eR eB base N : Nat) (w : World) (g : Nat) (us : Nat → Value) (vin : Value) (Z : List ZP) (vs : List Value) (ins : List (List Bool)) : Prop where
 du : DU eL eR base w.heap.size w g N us (fun v => (zF Z v).map (·.2))
 zs : ∀ z ∈ Z, pvR (okN base N us vin) w z
 vi : Bl Ty.val eB base w.heap.size w vin vs
 bl : vs.length = ins.length
 br : ∀ i (h : i < vs.length) (h' : i < ins.length), B.RdP (okN base N us vin) w [vs[i]] ins[i]
 vu : ∀ v, v < N → ∀ k, (us v).ownBlock = some k → vin.ownBlock ≠ some k
section
variable {B : Ty (List Bool)} {eL eR eB base N g : Nat} {w w' : World} {us : Nat → Value} {vin : Value} {Z : List ZP} {vs : List Value} {ins : List (List Bool)}
theorem FinS.lt (h : FinS B eL eR eB base N w g us vin Z vs ins) : g < w.heap.size := h.du.lt
theorem FinS.below (h : FinS B eL eR eB base N w g us vin Z vs ins) (hB : base ≤ w.heap.size) (hb : Below w.heap.size w w') : FinS B eL eR eB base N w' g us vin Z vs ins :=
 ⟨(h.du.below hb (Nat.le_refl _) hB).mono hb.size, fun z hz => (h.zs z hz).below hb, (h.vi.below hb (Nat.le_refl _)).mono hb.size, h.bl, fun i h1 h2 => (h.br i h1 h2).below hb, h.vu⟩
/-- a cell of an older block -/
theorem FinS.set {b i : Nat} {u : Value} (h : FinS B eL eR eB base N w g us vin Z vs ins) (hb : b < base) (hg : b ≠ g) : FinS B eL eR eB base N (w.setCell ⟨b, i, none⟩ u) g us vin Z vs ins := by
 have ht : TchP (fun k => k = b) w (w.setCell ⟨b, i, none⟩ u) := TchP.set rfl
 have hk : ∀ k, k < w.heap.size → okN base N us vin k → ¬ (k = b) := fun k _ hk e => by have := hk.1; omega
 have hz : (w.setCell ⟨b, i, none⟩ u).heap.size = w.heap.size := by simp [World.setCell]
 have hh : ∀ k, k ≠ b → (w.setCell ⟨b, i, none⟩ u).heap[k]? = w.heap[k]? := fun k hk => Below.heap_setCell _ _ _ _ hk
 refine ⟨?_, fun z hz => (h.zs z hz).tchP ht hk, bl_val_same h.vi (fun q hq => hh q (by have := h.vi.ge hq; omega)) (by rw [hz]; exact Nat.le_refl _), h.bl, fun j h1 h2 => (h.br j h1 h2).tchP ht hk, h.vu⟩
 obtain ⟨d1, d2, d3, d4⟩ := h.du
 refine ⟨owns_same d1 (hh g (Ne.symm hg)), d2, fun v hv => ?_, d4⟩
 exact pv_same (d3 v hv) (fun q hq => hh q (by have := (d3 v hv).ge hq; omega)) (by rw [hz]; exact Nat.le_refl _)
/-- one more set -/
theorem FinS.pushIn {v' x : Value} {L : List Bool} (h : FinS B eL eR eB base N w g us vin Z vs ins) (_ : base ≤ w.heap.size) (hB : Bl Ty.val eB base w'.heap.size w' v' (vs ++ [x])) (hg : w.grownBy w' vin.ownBlock) (hv : v'.ownBlock = vin.ownBlock ∨ v'.ownBlock = some w.heap.size) (hx : B.RdP (okN base N us vin) w [x] L) :
  FinS B eL eR eB base N w' g us v' Z (vs ++ [x]) (ins ++ [L]) := by
 have ht : TchP (fun k => vin.ownBlock = some k) w w' := TchP.grown hg (fun k h => h)
 have hk : ∀ k, k < w.heap.size → okN base N us vin k → ¬ (vin.ownBlock = some k) := fun k _ hk e => hk.2.2 e
 have hm : ∀ k, k < w'.heap.size → k < w.heap.size → okN base N us vin k → okN base N us v' k := fun k _ hl hk => ⟨hk.1, hk.2.1, fun e => by
  rcases hv with hv | hv
  ·rw [hv] at e; exact hk.2.2 e
  ·rw [hv] at e; simp at e; omega⟩
 have key : ∀ {α : Type} {E : Ty α} {cs : List Value} {y : α}, E.RdP (okN base N us vin) w cs y → E.RdP (okN base N us v') w' cs y := fun {α} {E} {cs} {y} hy => by
  obtain ⟨fp, h1, h2⟩ := hy
  have hlt := E.lt h1
  exact ⟨fp, E.same h1 (fun k hk' => ht.block k (hlt k hk') (hk k (hlt k hk') (h2 k hk'))), fun k hk' => hm k (Nat.lt_of_lt_of_le (hlt k hk') ht.size) (hlt k hk') (h2 k hk')⟩
 obtain ⟨d1, d2, d3, d4⟩ := h.du
 refine ⟨⟨owns_same d1 (hg.block g h.lt (fun e => by have := h.vi.ge e.symm; omega)), d2, fun v hv' => ?_, d4⟩, fun z hz => ⟨(h.zs z hz).1, (h.zs z hz).2.1, key (h.zs z hz).2.2⟩, hB, by simp [h.bl], fun i h1 h2 => ?_, fun v hv' k hk' e => ?_⟩
 ·exact pv_same (d3 v hv') (fun q hq => hg.block q ((d3 v hv').lt_top hq) (fun e => h.vu v hv' q hq e.symm)) hg.size
 ·rcases Nat.lt_or_ge i vs.length with hi | hi
  ·rw [List.getElem_append_left hi, List.getElem_append_left (by rw [← h.bl]; exact hi)]
   exact key (h.br i hi (by rw [← h.bl]; exact hi))
  ·obtain rfl : i = vs.length := by simp at h1; omega
   have e1 : (vs ++ [x])[vs.length]'h1 = x := by simp
   have e2 : (ins ++ [L])[vs.length]'h2 = L := by simp [h.bl]
   rw [e1, e2]
   exact key hx
 ·rcases hv with hv | hv
  ·rw [hv] at e; exact h.vu v hv' k hk' e
  ·rw [hv] at e
   simp at e
   have := (d3 v hv').lt_top hk'
   omega
/-- one more list that is due -/
theorem FinS.pushDue {l : Nat} {v1 : Value} {z : ZP} (h : FinS B eL eR eB base N w g us vin Z vs ins) (_ : base ≤ w.heap.size) (hl : l < N) (ht : topI z.1.2 = (l : Int)) (hB : Bl pvT eL base w'.heap.size w' v1 ((zF Z l).map (·.2) ++ [z.2])) (hg : w.grownBy w' (us l).ownBlock) (hv : v1.ownBlock = (us l).ownBlock ∨ v1.ownBlock = some w.heap.size) (hz : pvR (okN base N us vin) w z) :
  FinS B eL eR eB base N (w'.setCell ⟨g, l, none⟩ v1) g (fun v => if v = l then v1 else us v) vin (Z ++ [z]) vs ins := by
 have hd := DU.push h.du hl hB hg hv (Nat.le_refl _)
 have hzz : (w'.setCell ⟨g, l, none⟩ v1).heap.size = w'.heap.size := by simp [World.setCell]
 have hgb' : g < base := h.du.2.1
 have hs : ∀ k, k < w.heap.size → (us l).ownBlock ≠ some k → k ≠ g → (w'.setCell ⟨g, l, none⟩ v1).heap[k]? = w.heap[k]? := fun k hk hne hkg => (Below.heap_setCell _ _ _ _ (by simpa using hkg)).trans (hg.block k hk (fun e => hne e.symm))
 have hm : ∀ k, k < w.heap.size → okN base N us vin k → okN base N (fun v => if v = l then v1 else us v) vin k := fun k hk' hk => ⟨hk.1, fun v hv' => by
  by_cases e : v = l
  ·simp only [if_pos e]
   rcases hv with hv | hv
   ·rw [hv]; exact hk.2.1 l hl
   ·rw [hv]; intro e'; simp at e'; omega
  ·simp only [if_neg e]; exact hk.2.1 v hv', hk.2.2⟩
 have key : ∀ {α : Type} {E : Ty α} {cs : List Value} {y : α}, E.RdP (okN base N us vin) w cs y → E.RdP (okN base N (fun v => if v = l then v1 else us v) vin) (w'.setCell ⟨g, l, none⟩ v1) cs y := fun {α} {E} {cs} {y} hy => by
  obtain ⟨fp, h1, h2⟩ := hy
  have hlt := E.lt h1
  exact ⟨fp, E.same h1 (fun k hk' => hs k (hlt k hk') ((h2 k hk').2.1 l hl) (by have := (h2 k hk').1; omega)), fun k hk' => hm k (hlt k hk') (h2 k hk')⟩
 refine ⟨?_, fun y hy => ?_, bl_val_same h.vi (fun q hq => hs q (h.vi.lt_top hq) (fun e => h.vu l hl q e hq) (by have := h.vi.ge hq; omega)) (by rw [hzz]; exact hg.size), h.bl, fun i h1 h2 => key (h.br i h1 h2), fun v hv' k hk' e => ?_⟩
 ·rw [hzz]
  have e : (fun v => if v = l then (zF Z l).map (·.2) ++ [z.2] else (zF Z v).map (·.2)) = fun v => (zF (Z ++ [z]) v).map (·.2) := by
   funext v
   by_cases e : v = l
   ·subst e
    rw [if_pos rfl, zF_yes ht, List.map_append]
    rfl
   ·rw [if_neg e, zF_no (by rw [ht]; intro h; exact e (by omega))]
  rw [e] at hd
  exact hd
 ·rcases List.mem_append.1 hy with hy | hy
  ·exact ⟨(h.zs y hy).1, (h.zs y hy).2.1, key (h.zs y hy).2.2⟩
  ·rw [List.mem_singleton.1 hy]
   exact ⟨hz.1, hz.2.1, key hz.2.2⟩
 ·by_cases e' : v = l
  ·simp only [if_pos e'] at hk'
   rcases hv with hv | hv
   ·rw [hv] at hk'; exact h.vu l hl k hk' e
   ·rw [hv] at hk'
    simp at hk'
    have := h.vi.lt_top e
    omega
  ·simp only [if_neg e'] at hk'
   exact h.vu v hv' k hk' e
/-- what they read as in the end -/
theorem FinS.dues (h : FinS B eL eR eB base N w g us vin Z vs ins) (hN : N ≤ 1000) (hZ : Z.length ≤ 1000000) : duesT.RdP (fun k => k = g ∨ base ≤ k) w [.slice (some ⟨g, 0, none⟩) N N] (duesF (Z.map (·.1)) N) := by
 have h1 := dues_of (ok := fun k => k = g ∨ base ≤ k) h.du (by unfold capMax; omega) (fun v _ => by have := zF_len (Z := Z) (v := v); unfold capMax; omega) (fun v _ z hz => (h.zs z (zF_mem hz)).mono (fun k _ hk => .inr hk.1)) (.inl rfl) (fun k hk _ => .inr hk)
 have h2 : (fun v => (zF Z v).map (·.1)) = dueF (Z.map (·.1)) := by
  funext v
  exact zF_fst
 have h3 : ((List.range N).map fun v => (zF Z v).map (·.1)) = duesF (Z.map (·.1)) N := by
  unfold duesF
  rw [← h2]
 rw [h3] at h1
 exact h1
theorem FinS.sets (h : FinS B eL eR eB base N w g us vin Z vs ins) (hB : B.sz = 1) (hn : vs.length ≤ 1000) : (Ty.slice B).RdP (fun k => k = g ∨ base ≤ k) w [vin] ins :=
 rows_ofP hB (bl_val_rdP h.vi (by unfold capMax; omega) (fun q hq => .inr (h.vi.ge hq))) h.bl (fun i h1 h2 => (h.br i h1 h2).mono (fun k _ hk => .inr hk.1))
end
/-- nothing is there yet -/
theorem FinS.start {B : Ty (List Bool)} {eL eR eB base N g : Nat} {w : World} (h : ∀ eA top, DU eA eR base top w g N (fun _ => .slice none 0 0) (fun _ => [])) : FinS B eL eR eB base N w g (fun _ => .slice none 0 0) (.slice none 0 0) [] [] [] :=
 ⟨by simpa [zF] using h eL w.heap.size, fun z hz => by simp at hz, Bl.nil, rfl, fun i h => by simp at h, fun v _ k hk => by simp [Value.ownBlock] at hk⟩
end Go.Proofs.YtajmjfbejfiipaaGreat
namespace Go.Proofs.YtajmjfbejfiipaaGreat
open Go.RowKit
section
variable {P : Program} {ops : Array Oper} {Q : Exit → Act → World → Prop} {md : Region.Mode} {S : World → Prop} {tail : List Nat}
/-- number i comes up -/
def stepT (P : Program) (md : Region.Mode) (ops : Array Oper) (Q : Exit → Act → World → Prop) (S : World → Prop) (tail : List Nat) (fuel : Nat) (listed : Array Bool) (a : Act) (w : World) (i : Nat) (o : Oper) : Prop :=
 ∀ K' : Act → World → Prop, Shut (∀ a w, S w → (S w → wpAnyT P md ops Q S tail fuel (listed.setIfInBounds i true) a w) → K' a w) → if Region.wanted o (yielded ops a.tmps) = true then Oper.wp P o a w K' Q else K' (a.put o.dst undef) w
theorem wpAnyT_two {i j : Nat} {oi oj : Oper} {fuel : Nat} {listed : Array Bool} {a : Act} {w : World} (hi : ops[i]? = some oi) (hj : ops[j]? = some oj) (hr : Region.ready md ops listed = [i, j])
  (h1 : stepT P md ops Q S tail fuel listed a w i oi) (h2 : stepT P md ops Q S tail fuel listed a w j oj) : wpAnyT P md ops Q S tail (fuel + 1) listed a w := by
 refine ⟨fun h0 => (by rw [h0] at hr; cases hr), fun k hk => ?_⟩
 rw [hr] at hk
 have hk' : k = i ∨ k = j := by simpa using hk
 rcases hk' with rfl | rfl
 ·exact wpOp_step hi (fun K' hK => h1 K' (fun a w hS hW => hK a w ⟨fun _ => hS, hW hS⟩))
 ·exact wpOp_step hj (fun K' hK => h2 K' (fun a w hS hW => hK a w ⟨fun _ => hS, hW hS⟩))
theorem wpAnyT_three {i j k : Nat} {oi oj ok : Oper} {fuel : Nat} {listed : Array Bool} {a : Act} {w : World} (hi : ops[i]? = some oi) (hj : ops[j]? = some oj) (hk : ops[k]? = some ok) (hr : Region.ready md ops listed = [i, j, k])
  (h1 : stepT P md ops Q S tail fuel listed a w i oi) (h2 : stepT P md ops Q S tail fuel listed a w j oj) (h3 : stepT P md ops Q S tail fuel listed a w k ok) : wpAnyT P md ops Q S tail (fuel + 1) listed a w := by
 refine ⟨fun h0 => (by rw [h0] at hr; cases hr), fun q hq => ?_⟩
 rw [hr] at hq
 have hq' : q = i ∨ q = j ∨ q = k := by simpa using hq
 rcases hq' with rfl | rfl | rfl
 ·exact wpOp_step hi (fun K' hK => h1 K' (fun a w hS hW => hK a w ⟨fun _ => hS, hW hS⟩))
 ·exact wpOp_step hj (fun K' hK => h2 K' (fun a w hS hW => hK a w ⟨fun _ => hS, hW hS⟩))
 ·exact wpOp_step hk (fun K' hK => h3 K' (fun a w hS hW => hK a w ⟨fun _ => hS, hW hS⟩))
end
end Go.Proofs.YtajmjfbejfiipaaGreat
