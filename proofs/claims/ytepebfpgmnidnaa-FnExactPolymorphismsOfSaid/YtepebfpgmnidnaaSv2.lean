/-
  A row of rows whose elements point into older memory, built by appends to its own elements; what it reads as. No program is named here.
-/
import Derived.Test.YtepebfpgmnidnaaSv
namespace Go.Proofs.Ytepebfpgmnidnaa
open Go.RowKit
theorem slice_exP {α : Type} {E : Ty α} {ok : Nat → Prop} {w : World} {cs : List Value} {xs : List α} (h : (Ty.slice E).RdP ok w cs xs) :
    ∃ ad cap, cs = [.slice ad xs.length cap] ∧ xs.length ≤ cap ∧ xs.length ≤ 140737488351232 ∧
      (0 < xs.length → ∃ b o, ad = some ⟨b, o, none⟩ ∧ b < w.heap.size ∧ ok b ∧ ∀ i (h : i < xs.length), ∃ cs, E.RdP ok w cs xs[i] ∧ ∀ j (hj : j < cs.length), w.cell? ⟨b, o + i * E.sz + j, none⟩ = some cs[j]) := by
  obtain ⟨fp, ⟨ad, cap, rfl, h1, h2, h3⟩, hok⟩ := h
  refine ⟨ad, cap, rfl, h1, h2, fun hp => ?_⟩
  rcases h3 with h3 | ⟨h3, b, o, fps, rfl, hb, rfl, h4⟩
  · omega
  · exact ⟨b, o, rfl, hb, hok b (List.mem_cons_self ..), fun i hi => let ⟨cs, h5, h6⟩ := h4 i hi; ⟨cs, ⟨_, h5, fun k hk => hok k (List.mem_cons_of_mem _ (List.mem_flatMap.2 ⟨i, by simpa using hi, hk⟩))⟩, h6⟩⟩
/-- from its elements -/
theorem slice_mkP {α : Type} {E : Ty α} {ok : Nat → Prop} {w : World} {ad : Option Addr} {n cap : Nat} {xs : List α} (hn : n = xs.length) (h1 : n ≤ cap) (h2 : n ≤ capMax)
    (h : 0 < n → ∃ b o, ad = some ⟨b, o, none⟩ ∧ b < w.heap.size ∧ ok b ∧ ∀ i (h : i < xs.length), ∃ cs, E.RdP ok w cs xs[i] ∧ ∀ j (hj : j < cs.length), w.cell? ⟨b, o + i * E.sz + j, none⟩ = some cs[j]) :
    (Ty.slice E).RdP ok w [.slice ad n cap] xs := by
  subst hn
  rcases Nat.eq_zero_or_pos xs.length with h0 | h0
  · exact ⟨[], ⟨ad, cap, rfl, h1, h2, .inl ⟨h0, rfl⟩⟩, fun k hk => by cases hk⟩
  · obtain ⟨b, o, rfl, hb, hok, he⟩ := h h0
    have key : ∀ i, ∃ cf : List Value × List Nat, ∀ (h : i < xs.length), E.rd w cf.1 xs[i] cf.2 ∧ (∀ k ∈ cf.2, ok k) ∧ ∀ j (hj : j < cf.1.length), w.cell? ⟨b, o + i * E.sz + j, none⟩ = some cf.1[j] := fun i => by
      by_cases hi : i < xs.length
      · obtain ⟨cs, ⟨fp, h3, h4⟩, h5⟩ := he i hi
        exact ⟨(cs, fp), fun _ => ⟨h3, h4, h5⟩⟩
      · exact ⟨([], []), fun h => absurd h hi⟩
    obtain ⟨F, hF⟩ := Classical.axiomOfChoice key
    refine ⟨b :: (List.range xs.length).flatMap fun i => (F i).2, ⟨_, cap, rfl, h1, h2, .inr ⟨h0, b, o, fun i => (F i).2, rfl, hb, rfl, fun i hi => ⟨(F i).1, (hF i hi).1, (hF i hi).2.2⟩⟩⟩, fun k hk => ?_⟩
    rcases List.mem_cons.1 hk with rfl | hk
    · exact hok
    · obtain ⟨i, hi, hk⟩ := List.mem_flatMap.1 hk
      exact (hF i (by simpa using hi)).2.1 k hk
theorem rdP_slice {α : Type} {E : Ty α} {ok : Nat → Prop} {w : World} {u : Value} {x : List α} (h : (Ty.slice E).RdP ok w [u] x) : ∃ ad cap, u = .slice ad x.length cap := rd_slice h.rd
/-- a row of structs: its cells, with what their slices read as -/
theorem pairs_exP {ok : Nat → Prop} {w : World} {u : Value} {xs : List (Int × List Int)} (h : opsT.RdP ok w [u] xs) :
    ∃ ad cap, u = .slice ad xs.length cap ∧ xs.length ≤ cap ∧
      (0 < xs.length → ∃ b o, ad = some ⟨b, o, none⟩ ∧ b < w.heap.size ∧ ∀ i (h : i < xs.length), ∃ v, intsT.RdP ok w [v] xs[i].2 ∧ I64 xs[i].1 ∧
        w.cell? ⟨b, o + i * 2, none⟩ = some (.int .i64 xs[i].1) ∧ w.cell? ⟨b, o + i * 2 + 1, none⟩ = some v) := by
  obtain ⟨ad, cap, h1, h2, h3, h4⟩ := slice_exP h
  refine ⟨ad, cap, by simpa using h1, h2, fun hp => ?_⟩
  obtain ⟨b, o, h5, h6, _, h7⟩ := h4 hp
  refine ⟨b, o, h5, h6, fun i hi => ?_⟩
  obtain ⟨cs, ⟨fp, ⟨cs', rfl, hI, h8⟩, hf⟩, h10⟩ := h7 i hi
  obtain ⟨_, _, rfl, _⟩ := id h8
  exact ⟨_, ⟨_, h8, hf⟩, hI, by simpa [Ty.slice, Ty.cons] using h10 0 (by simp), by simpa [Ty.slice, Ty.cons] using h10 1 (by simp)⟩
/-- what a value of a row's cells reads as -/
def pvR (ok : Nat → Prop) (w : World) (z : (Int × List Int) × (Int × Value)) : Prop := z.2.1 = z.1.1 ∧ I64 z.1.1 ∧ intsT.RdP ok w [z.2.2] z.1.2
theorem pvR.below {ok : Nat → Prop} {w w' : World} {z : (Int × List Int) × (Int × Value)} (h : pvR ok w z) (hb : Below w.heap.size w w') : pvR ok w' z := ⟨h.1, h.2.1, h.2.2.below hb⟩
theorem pvR.mono {ok ok' : Nat → Prop} {w : World} {z : (Int × List Int) × (Int × Value)} (h : pvR ok w z) (hk : ∀ k, k < w.heap.size → ok k → ok' k) : pvR ok' w z := ⟨h.1, h.2.1, h.2.2.mono hk⟩
/-- the pairs of a row's data and its cells -/
theorem vals_of {ok : Nat → Prop} {w : World} {u : Value} {xs : List (Int × List Int)} (h : opsT.RdP ok w [u] xs) :
    ∃ Z : List ((Int × List Int) × (Int × Value)), Z.map (·.1) = xs ∧ (∀ z ∈ Z, pvR ok w z) ∧ Z.length = xs.length ∧
      ∃ ad cap, u = .slice ad xs.length cap ∧ (0 < xs.length → ∃ b o, ad = some ⟨b, o, none⟩ ∧ b < w.heap.size ∧ ∀ i (h : i < Z.length), w.cell? ⟨b, o + i * 2, none⟩ = some (.int .i64 (Z[i]).1.1) ∧ w.cell? ⟨b, o + i * 2 + 1, none⟩ = some (Z[i]).2.2) := by
  obtain ⟨ad, cap, rfl, -, hc⟩ := pairs_exP h
  rcases Nat.eq_zero_or_pos xs.length with h0 | h0
  · refine ⟨[], ?_, fun z hz => (by cases hz), by simp [h0], ad, cap, rfl, fun h => by omega⟩
    rw [List.eq_nil_of_length_eq_zero h0]
    rfl
  · obtain ⟨b, o, rfl, hb, hce⟩ := hc h0
    have key : ∀ i, ∃ v, ∀ (h : i < xs.length), intsT.RdP ok w [v] (xs[i]).2 ∧ I64 (xs[i]).1 ∧ w.cell? ⟨b, o + i * 2, none⟩ = some (.int .i64 (xs[i]).1) ∧ w.cell? ⟨b, o + i * 2 + 1, none⟩ = some v := fun i => by
      by_cases hi : i < xs.length
      · obtain ⟨v, hv⟩ := hce i hi
        exact ⟨v, fun _ => hv⟩
      · exact ⟨undef, fun h => absurd h hi⟩
    obtain ⟨F, hF⟩ := Classical.axiomOfChoice key
    have hl : ((List.range xs.length).map fun i => (xs.getD i (0, []), ((xs.getD i (0, [])).1, F i))).length = xs.length := by simp
    have hg : ∀ i (h : i < ((List.range xs.length).map fun i => (xs.getD i (0, []), ((xs.getD i (0, [])).1, F i))).length) (h' : i < xs.length), ((List.range xs.length).map fun i => (xs.getD i (0, []), ((xs.getD i (0, [])).1, F i)))[i] = (xs[i], ((xs[i]).1, F i)) := fun i h h' => by
      simp [List.getD_eq_getElem?_getD, h']
    refine ⟨(List.range xs.length).map fun i => (xs.getD i (0, []), ((xs.getD i (0, [])).1, F i)), ?_, fun z hz => ?_, hl, _, cap, rfl, fun _ => ⟨b, o, rfl, hb, fun i h => ?_⟩⟩
    · apply List.ext_getElem (by simp)
      intro i h h'
      rw [List.getElem_map, hg i (by simpa using h') h']
    · obtain ⟨i, hi, rfl⟩ := List.mem_iff_getElem.1 hz
      have h' : i < xs.length := by simpa using hi
      rw [hg i hi h']
      exact ⟨rfl, (hF i h').2.1, (hF i h').1⟩
    · have h' : i < xs.length := by simpa using h
      rw [hg i h h']
      exact ⟨(hF i h').2.2.1, (hF i h').2.2.2⟩
/-- a row of these cells reads as the data do -/
theorem ops_of {ok : Nat → Prop} {w : World} {v : Value} {Z : List ((Int × List Int) × (Int × Value))} (h : (Ty.slice pvT).RdP ok w [v] (Z.map (·.2))) (hr : ∀ z ∈ Z, pvR ok w z) : opsT.RdP ok w [v] (Z.map (·.1)) := by
  obtain ⟨ad, cap, hv, h1, h2, h3⟩ := slice_exP h
  obtain rfl : v = _ := by simpa using hv
  have h1' : Z.length ≤ cap := by simpa using h1
  have h2' : Z.length ≤ capMax := by unfold capMax; simpa using h2
  have h3' : 0 < Z.length → _ := fun h => h3 (by simpa using h)
  refine slice_mkP (by simp) h1' h2' fun h0 => ?_
  obtain ⟨b, o, rfl, hb, hok, he⟩ := h3' h0
  refine ⟨b, o, rfl, hb, hok, fun i hi => ?_⟩
  rw [List.length_map] at hi
  obtain ⟨cs, ⟨fp, ⟨cs', rfl, _, rfl, _, _⟩, hf⟩, h6⟩ := he i (by simpa using hi)
  obtain ⟨e1, e2, fq, e3, e4⟩ := hr _ (List.getElem_mem hi)
  simp only [List.getElem_map] at h6 ⊢
  exact ⟨_, ⟨fq, ⟨_, by rw [e1], e2, e3⟩, e4⟩, h6⟩
theorem Bl.ge {α : Type} {E : Ty α} {e base top : Nat} {w : World} {v : Value} {ys : List α} (h : Bl E e base top w v ys) {g : Nat} (hg : v.ownBlock = some g) : base ≤ g := by
  obtain ⟨L, fps, h1, _⟩ := h
  exact (h1.lt g hg).1
theorem Bl.lt_top {α : Type} {E : Ty α} {e base top : Nat} {w : World} {v : Value} {ys : List α} (h : Bl E e base top w v ys) {g : Nat} (hg : v.ownBlock = some g) : g < top := by
  obtain ⟨L, fps, _, _, _, _, h5, _⟩ := h
  exact h5 g hg
theorem grown_cell' {w w' : World} {row : Option Nat} {b i : Nat} (h : w.grownBy w' row) (hlt : b < w.heap.size) (hne : row ≠ some b) : w'.cell? ⟨b, i, none⟩ = w.cell? ⟨b, i, none⟩ := World.cell?_of_block (h.block b hlt fun e => hne e.symm)
theorem grown_tchF {w w' : World} {row : Option Nat} (h : w.grownBy w' row) : TchF row.toList w w' := ⟨h.os, h.tape, h.output, h.size, fun k hk hn => h.block k hk fun e => hn (by rw [← e]; simp)⟩
/-- a datum that does not lie in one block -/
def Ty.off {α : Type} (E : Ty α) (bx : Nat) : Ty α where
  sz := E.sz
  rd := fun w cs x fp => E.rd w cs x fp ∧ bx ∉ fp
  len := fun h => E.len h.1
  same := fun h hs => ⟨E.same h.1 hs, h.2⟩
  lt := fun h => E.lt h.1
  one := fun h => E.one h.1
theorem fr_off {α : Type} {E : Ty α} {bx base : Nat} {w : World} {cs : List Value} {x : α} (h : E.Fr base w cs x) (hb : bx < base) : (E.off bx).Fr base w cs x :=
  let ⟨fp, h1, h2, h3, h4⟩ := h; ⟨fp, ⟨h1, fun hm => by have := h3 bx hm; omega⟩, h2, h3, h4⟩
theorem off_fr {α : Type} {E : Ty α} {bx base : Nat} {w : World} {cs : List Value} {x : List α} (h : (Ty.slice (E.off bx)).Fr base w cs x) : (Ty.slice E).Fr base w cs x := by
  obtain ⟨fp, ⟨ad, cap, h1, h2, h3, h4⟩, h5⟩ := h
  refine ⟨fp, ⟨ad, cap, h1, h2, h3, ?_⟩, h5⟩
  rcases h4 with h4 | ⟨h4, b, o, fps, e1, e2, e3, e4⟩
  · exact .inl h4
  · exact .inr ⟨h4, b, o, fps, e1, e2, e3, fun i hi => let ⟨cs, h6, h7⟩ := e4 i hi; ⟨cs, h6.1, h7⟩⟩
theorem off_same {α : Type} {E : Ty α} {bx e base top : Nat} {w w' : World} {v : Value} {ys : List α} (h : Bl (E.off bx) e base top w v ys) (hv : v.ownBlock ≠ some bx) (hs : ∀ k, k ≠ bx → w'.heap[k]? = w.heap[k]?) : Bl (E.off bx) e base top w' v ys := by
  obtain ⟨L, fps, h1, h2, h3, h4, h5, h6⟩ := h
  have hne : ∀ b ∈ flat fps ys.length, b ≠ bx := by
    intro b hb he
    obtain ⟨i, hi, hb⟩ := List.mem_flatMap.1 hb
    obtain ⟨cs, h7, _⟩ := h2 i (by simpa using hi)
    rw [he] at hb
    exact h7.2 hb
  have hS : Same (flat fps ys.length) w w' := fun k hk => hs k (hne k hk)
  refine ⟨L, fps, ⟨h1.1, ?_⟩, fun i hi => ?_, h3, h4, h5, h6.same hS⟩
  · rcases h1.2 with h | ⟨g, cap, cur, rfl, hg, hh, r⟩
    · exact .inl h
    · exact .inr ⟨g, cap, cur, rfl, hg, by rw [hs g (fun e => hv (by rw [e]; rfl))]; exact hh, r⟩
  · obtain ⟨cs, h7, h8⟩ := h2 i hi
    exact ⟨cs, (E.off bx).same h7 (fun k hk => hS k (List.mem_flatMap.2 ⟨i, by simpa using hi, hk⟩)), h8⟩
theorem pv_same {e base top top' : Nat} {w w' : World} {v : Value} {ys : List (Int × Value)} (h : Bl pvT e base top w v ys) (hs : ∀ b, v.ownBlock = some b → w'.heap[b]? = w.heap[b]?) (ht : top ≤ top') : Bl pvT e base top' w' v ys := by
  obtain ⟨L, fps, h1, h2, h3, h4, h5, h6⟩ := h
  have hnil : ∀ b, b ∉ flat fps ys.length := by
    intro b hb
    obtain ⟨i, hi, hb⟩ := List.mem_flatMap.1 hb
    obtain ⟨cs, ⟨cs', _, _, _, _, hf⟩, _⟩ := h2 i (by simpa using hi)
    rw [hf] at hb
    cases hb
  refine ⟨L, fps, ⟨h1.1, ?_⟩, fun i hi => ?_, h3, fun b hb => absurd hb (hnil b), fun g hg => Nat.lt_of_lt_of_le (h5 g hg) ht, fun b hb => absurd hb (hnil b)⟩
  · rcases h1.2 with h | ⟨g, cap, cur, rfl, hg, hh, r⟩
    · exact .inl h
    · exact .inr ⟨g, cap, cur, rfl, hg, by rw [hs g rfl]; exact hh, r⟩
  · obtain ⟨cs, h7, h8⟩ := h2 i hi
    exact ⟨cs, h7, h8⟩
/-- a row of n rows at block g: its cells are us; each is a row of the call's own, from base on, and no two share a block -/
def DU (eA eR base top : Nat) (w : World) (g n : Nat) (us : Nat → Value) (Ls : Nat → List (Int × Value)) : Prop :=
  w.ownsRow g eR 1 (.slice (some ⟨g, 0, none⟩) n n) n ((List.range n).map us) ∧ g < base ∧ (∀ v, v < n → Bl pvT eA base top w (us v) (Ls v)) ∧ ∀ v, v < n → ∀ b, (us v).ownBlock = some b → ∀ v', v' < n → v' ≠ v → (us v').ownBlock ≠ some b
section
variable {eA eR base top g n : Nat} {w w' : World} {us : Nat → Value} {Ls : Nat → List (Int × Value)}
theorem owns_same {b e sz : Nat} {g n cap : Nat} {xs : List Value} (h : w.ownsRow b e sz (.slice (some ⟨g, 0, none⟩) n cap) n xs) (hs : w'.heap[g]? = w.heap[g]?) : w'.ownsRow b e sz (.slice (some ⟨g, 0, none⟩) n cap) n xs := by
  refine ⟨h.1, ?_⟩
  rcases h.2 with h | ⟨g', cap, cur, hg', hg, hh, r⟩
  · exact .inl h
  · simp only [Value.slice.injEq, Option.some.injEq, Addr.mk.injEq, and_true, true_and] at hg'
    obtain ⟨rfl, rfl⟩ := hg'
    exact .inr ⟨g, _, cur, rfl, hg, by rw [hs]; exact hh, r⟩
theorem DU.nils {eA' base' top' : Nat} (h : DU eA eR base top w g n (fun _ => .slice none 0 0) (fun _ => [])) (hb : g < base') (hs : w'.heap[g]? = w.heap[g]?) : DU eA' eR base' top' w' g n (fun _ => .slice none 0 0) (fun _ => []) :=
  ⟨owns_same h.1 hs, hb, fun v _ => Bl.nil, fun v _ b hb => by simp [Value.ownBlock] at hb⟩
theorem DU.lt (h : DU eA eR base top w g n us Ls) : g < w.heap.size := (h.1.lt g rfl).2
theorem DU.cell (h : DU eA eR base top w g n us Ls) {j : Nat} (hj : j < n) : w.cell? ⟨g, j, none⟩ = some (us j) := by
  rw [World.ownsRow.cellAt h.1 j (by omega)]
  simp [hj]
theorem DU.free (h : DU eA eR base top w g n us Ls) (j : Nat) : w.frozen? ⟨g, j, none⟩ = false := World.ownsRow.frozenAt h.1 j
theorem DU.below {B : Nat} (h : DU eA eR base top w g n us Ls) (hb : Below B w w') (ht : top ≤ B) (hB : base ≤ B) : DU eA eR base top w' g n us Ls :=
  ⟨owns_same h.1 (hb.block g (by have := h.2.1; omega)), h.2.1, fun v hv => (h.2.2.1 v hv).below hb ht, h.2.2.2⟩
theorem DU.mono {top' : Nat} (h : DU eA eR base top w g n us Ls) (ht : top ≤ top') : DU eA eR base top' w g n us Ls := ⟨h.1, h.2.1, fun v hv => (h.2.2.1 v hv).mono ht, h.2.2.2⟩
theorem DU.push {l : Nat} {v1 : Value} {y : Int × Value} (h : DU eA eR base top w g n us Ls) (hl : l < n) (hB : Bl pvT eA base w'.heap.size w' v1 (Ls l ++ [y])) (hg : w.grownBy w' (us l).ownBlock) (hv : v1.ownBlock = (us l).ownBlock ∨ v1.ownBlock = some w.heap.size) (ht : top ≤ w.heap.size) :
    DU eA eR base w'.heap.size (w'.setCell ⟨g, l, none⟩ v1) g n (fun v => if v = l then v1 else us v) (fun v => if v = l then Ls l ++ [y] else Ls v) := by
  obtain ⟨h1, h2, h3, h4⟩ := h
  have hbl : (us l).ownBlock ≠ some g := fun e => by have := (h3 l hl).ge e; omega
  have hgl := (h1.lt g rfl).2
  have hg' : w'.heap[g]? = w.heap[g]? := hg.block g hgl (fun e => hbl e.symm)
  have hset : ∀ b, b ≠ g → (w'.setCell ⟨g, l, none⟩ v1).heap[b]? = w'.heap[b]? := fun b hb => Below.heap_setCell w' ⟨g, l, none⟩ v1 b hb
  refine ⟨?_, h2, fun v hv' => ?_, fun v hv' b hb v' hv2 hne => ?_⟩
  · have h5 := ((owns_same h1 hg').stored l v1).1
    have e : ((List.range n).map us).set l v1 = (List.range n).map (fun v => if v = l then v1 else us v) := by
      apply List.ext_getElem (by simp)
      intro i hi hi'
      rw [List.getElem_set]
      simp only [List.getElem_map, List.getElem_range]
      by_cases e : l = i
      · subst e; simp
      · rw [if_neg e, if_neg (fun h => e h.symm)]
    rw [← e]
    exact h5
  · by_cases e : v = l
    · subst e
      simp only [if_pos]
      exact pv_same hB (fun b hb => hset b (by have := hB.ge hb; omega)) (Nat.le_refl _)
    · simp only [if_neg e]
      refine pv_same (h3 v hv') (fun b hb => ?_) (Nat.le_trans ht hg.size)
      have hbl := (h3 v hv').ge hb
      have hbt : b < w.heap.size := by
        obtain ⟨L, fps, _, _, _, _, h5, _⟩ := h3 v hv'
        exact Nat.lt_of_lt_of_le (h5 b hb) ht
      rw [hset b (by omega)]
      exact hg.block b hbt (fun he => h4 v hv' b hb l hl (fun h => e h.symm) he.symm)
  · have hbt : ∀ u b, u < n → (us u).ownBlock = some b → b < w.heap.size := fun u b hu hb => by
      obtain ⟨L, fps, _, _, _, _, h5, _⟩ := h3 u hu
      exact Nat.lt_of_lt_of_le (h5 b hb) ht
    by_cases e : v = l
    · subst e
      simp only [if_pos] at hb
      simp only [if_neg hne]
      rcases hv with hv | hv
      · rw [hv] at hb; exact h4 v hv' b hb v' hv2 hne
      · rw [hv] at hb
        intro he
        have := hbt v' b hv2 he
        simp at hb
        omega
    · simp only [if_neg e] at hb
      by_cases e' : v' = l
      · subst e'
        simp only [if_pos]
        rcases hv with hv | hv
        · rw [hv]; exact h4 v hv' b hb v' hv2 hne
        · rw [hv]
          intro he
          have := hbt v b hv' hb
          simp at he
          omega
      · simp only [if_neg e']
        exact h4 v hv' b hb v' hv2 hne
end
/-- what it reads as -/
theorem dues_of {eA eR base top g n : Nat} {w : World} {us : Nat → Value} {ok : Nat → Prop} {Zs : Nat → List ((Int × List Int) × (Int × Value))} (h : DU eA eR base top w g n us (fun v => (Zs v).map (·.2))) (hn : n ≤ capMax) (hl : ∀ v, v < n → (Zs v).length ≤ capMax)
    (hr : ∀ v, v < n → ∀ z ∈ Zs v, pvR ok w z) (hg : ok g) (hb : ∀ k, base ≤ k → k < w.heap.size → ok k) : duesT.RdP ok w [.slice (some ⟨g, 0, none⟩) n n] ((List.range n).map fun v => (Zs v).map (·.1)) := by
  refine slice_mkP (by simp) (Nat.le_refl _) hn fun _ => ⟨g, 0, rfl, h.lt, hg, fun i hi => ?_⟩
  have hi' : i < n := by simpa using hi
  refine ⟨[us i], ?_, fun j hj => ?_⟩
  · rw [List.getElem_map, List.getElem_range]
    obtain ⟨fp, h1, -, h3, -⟩ := (h.2.2.1 i hi').fr (by rw [List.length_map]; exact hl i hi')
    exact ops_of ⟨fp, h1, fun k hk => hb k (h3 k hk) (Ty.lt _ h1 k hk)⟩ (hr i hi')
  · obtain rfl : j = 0 := by simpa using hj
    have := h.cell hi'
    simpa [Ty.slice] using this
/-- a make of n rows, in a region -/
theorem step_mkN {P : Program} {K : Act → World → Prop} {Ee : Prop} (w : World) {ops : Array Oper} {o : Oper} {a : Act} {Q : Exit → Act → World → Prop} (hg : o.guard = none) (l c : Operand) (t e : TypeId) {bytes : Nat}
    (hop : o.op = Op.makeSlice t l c) (ht : P.underlying t = some (.slice e)) (hinfo : (P.info? e).map (fun i => (i.zero, i.size, i.bytes)) = some (some (.slice none 0 0), 1, bytes)) (n : Nat) (hl : a.eval l = .int .i64 (n : Int)) (hc : a.eval c = .int .i64 (n : Int)) (hn : n ≤ 1000000000) (hby : bytes ≤ 100000)
    (hK : ∀ w', (∀ eA base top, w.heap.size < base → DU eA e base top w' w.heap.size n (fun _ => .slice none 0 0) (fun _ => [])) → Below w.heap.size w w' → w'.heap.size = w.heap.size + 1 → K (a.put o.dst (.slice (some ⟨w.heap.size, 0, none⟩) n n)) w') :
    if Region.wanted o (yielded ops a.tmps) = true then Oper.wp P o a w K Q else Ee := by
  rw [if_pos (by simp [Region.wanted, hg])]
  obtain ⟨i, hi, hz, hsz, hbt'⟩ := info_parts hinfo
  have hlen' : bytes * n ≤ 281474976710656 := Nat.le_trans (Nat.mul_le_mul hby hn) (by decide)
  have hb48 : (i.bytes : Int) * (n : Int) ≤ 281474976710656 := by
    have h : ((bytes * n : Nat) : Int) ≤ 281474976710656 := by omega
    rw [hbt']
    rwa [Int.natCast_mul] at h
  have hr := run_make (P := P) w t e i (.slice none 0 0) ht hi hz .i64 .i64 (n : Int) (n : Int) (by omega) (Int.le_refl _) hb48 (by omega)
  simp only [Int.toNat_natCast] at hr
  unfold Oper.wp
  simp only [execOp, hop, hl, hc, hr, Result.andThen_ok, Sem.run_bind, Sem.run_pure]
  have hown := World.ownsRow_lit (base := w.heap.size) (e := e) (size := 1) w (madeCells (Value.slice none 0 0).cells (n * i.size)) n (Nat.le_refl _) (by unfold maxLen; omega) (by rw [size_madeCells, hsz])
  have e1 : (madeCells (Value.slice none 0 0).cells (n * i.size)).toList = (List.range n).map (fun _ => Value.slice none 0 0) := by
    rw [hsz, Nat.mul_one]
    have hc0 : (Value.slice none 0 0).cells = #[.slice none 0 0] := by simp [Value.cells]
    rw [hc0, toList_madeCells_one, List.map_const', List.length_range]
  rw [e1] at hown
  exact hK _ (fun eA base top hb => ⟨hown, hb, fun v _ => Bl.nil, fun v _ b hb => by simp [Value.ownBlock] at hb⟩) ((Below.refl _ w).alloc (Nat.le_refl _) _) (by simp)
end Go.Proofs.Ytepebfpgmnidnaa
