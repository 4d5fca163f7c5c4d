/-
Marks: what a write into all numbers of a datum's memory changes, and what the datum then reads as. No program is named here.
Contracts: counting lists, formulas of one atom; results that lie in new memory.
Contracts: atoms whose variables are renamed.
Contracts: hiding a variable of a formula: the reference's.
Contracts: hiding a variable of a formula: the program's.
Contracts: hiding a variable of a formula: the program's.
Contracts: a copy of a list by append, the limits of formulas; the law of an append of many numbers.
Contracts: whether an operation breaks a relation, the reference's.
A region that draws its order, with loads ahead of writes: one condition on the world lets the loads be taken first; it need hold no more once one of the last writes ('tail') has come up. Every load waits for none of these, and these wait for every load. No program is named here.
Contracts: slices.Clone, an instance in new memory.
Contracts: atoms that hold; the greatest number of a row.
-/
import Derived.Test.YthjafhjghjbdmaaGreatQAB
import Derived.Deep.RegionHeldLaw
import Derived.Test.YthjafhjghjbdmaaGreatQAD
import Derived.Deep.RegionLaw
import Derived.Deep.RegionHeld
import Derived.Below
namespace Go.Proofs.YthjafhjghjbdmaaGreat
open Go.RowKit

/-- all blocks but some are as before -/
structure TchF (fp : List Nat) (w w' : World) : Prop where
  os : w'.os = w.os
  tape : w'.tape = w.tape
  output : w'.output = w.output
  size : w.heap.size ≤ w'.heap.size
  block : ∀ k, k < w.heap.size → k ∉ fp → w'.heap[k]? = w.heap[k]?
theorem TchF.refl (fp : List Nat) (w : World) : TchF fp w w := ⟨rfl, rfl, rfl, Nat.le_refl _, fun _ _ _ => rfl⟩
theorem TchF.trans {fp : List Nat} {w w' w'' : World} (h : TchF fp w w') (k : TchF fp w' w'') : TchF fp w w'' :=
  ⟨k.os.trans h.os, k.tape.trans h.tape, k.output.trans h.output, Nat.le_trans h.size k.size, fun i hi hb => (k.block i (Nat.lt_of_lt_of_le hi h.size) hb).trans (h.block i hi hb)⟩
theorem TchF.mono {fp fp' : List Nat} {w w' : World} (h : TchF fp w w') (hs : ∀ k ∈ fp, k ∈ fp') : TchF fp' w w' := ⟨h.os, h.tape, h.output, h.size, fun k hk hn => h.block k hk fun hm => hn (hs k hm)⟩
theorem Below.tchF {w w' : World} (h : Below w.heap.size w w') (fp : List Nat) : TchF fp w w' := ⟨h.os, h.tape, h.output, h.size, fun k hk _ => h.block k hk⟩
theorem TchF.setCell {fp : List Nat} {b : Nat} (hb : b ∈ fp) (o : Nat) (w : World) (u : Value) : TchF fp w (w.setCell ⟨b, o, none⟩ u) :=
  ⟨rfl, rfl, rfl, by simp [World.setCell], fun k _ hk => Below.heap_setCell _ _ _ _ (fun e => hk (by rw [e]; exact hb))⟩
theorem TchF.same {fp g : List Nat} {w w' : World} (h : TchF fp w w') (hg : ∀ k ∈ g, k < w.heap.size ∧ k ∉ fp) : Same g w w' := fun k hk => h.block k (hg k hk).1 (hg k hk).2
theorem TchF.cell {fp : List Nat} {w w' : World} (h : TchF fp w w') {b o : Nat} (hb : b < w.heap.size) (hn : b ∉ fp) : w'.cell? ⟨b, o, none⟩ = w.cell? ⟨b, o, none⟩ := World.cell?_of_block (w := w) (h.block b hb hn)
theorem TchF.frozen {fp : List Nat} {w w' : World} (h : TchF fp w w') {b o : Nat} (hb : b < w.heap.size) (hn : b ∉ fp) : w'.frozen? ⟨b, o, none⟩ = w.frozen? ⟨b, o, none⟩ := World.frozen?_of_block (w := w) (h.block b hb hn)

/-- the marks: f says how an element is marked from a number on, c how many marks it takes -/
def mkL {α : Type} (f : Int → α → α) (c : α → Int) : Int → List α → List α
  | _, [] => []
  | k, x :: r => f k x :: mkL f c (k + c x) r
theorem mkL_len {α : Type} {f : Int → α → α} {c : α → Int} : ∀ {xs : List α} {k : Int}, (mkL f c k xs).length = xs.length
  | [], _ => rfl
  | x :: r, k => by simp [mkL, mkL_len (xs := r)]
theorem mkL_get {α : Type} {f : Int → α → α} {c : α → Int} : ∀ {xs : List α} {k : Int} {i : Nat} (h : i < xs.length) (h' : i < (mkL f c k xs).length), (mkL f c k xs)[i] = f (k + sumL c (xs.take i)) xs[i]
  | x :: r, k, 0, h, h' => by simp [mkL, sumL]
  | x :: r, k, i + 1, h, h' => by
    simp only [mkL, List.getElem_cons_succ, List.take_succ_cons, sumL]
    rw [mkL_get (xs := r) (by simpa using h), Int.add_assoc]
/-- marked up to a place -/
def mkAt {α : Type} (f : Int → α → α) (c : α → Int) (k : Int) (xs : List α) (i : Nat) : List α := (mkL f c k xs).take i ++ xs.drop i
section
variable {α : Type} {f : Int → α → α} {c : α → Int} {k : Int} {xs : List α} {i : Nat}
theorem mkAt_zero : mkAt f c k xs 0 = xs := by simp [mkAt]
theorem mkAt_full : mkAt f c k xs xs.length = mkL f c k xs := by
  unfold mkAt
  rw [List.drop_length, List.append_nil, List.take_of_length_le (by rw [mkL_len]; exact Nat.le_refl _)]
theorem mkAt_len : (mkAt f c k xs i).length = xs.length := by
  simp [mkAt, mkL_len]; omega
theorem mkAt_get (h : i < xs.length) (h' : i < (mkAt f c k xs i).length) : (mkAt f c k xs i)[i] = xs[i] := by
  have hl : ((mkL f c k xs).take i).length = i := by rw [List.length_take, mkL_len]; omega
  simp only [mkAt]
  rw [List.getElem_append_right (by omega)]
  simp [hl]
theorem mkAt_set (h : i < xs.length) : (mkAt f c k xs i).set i (f (k + sumL c (xs.take i)) xs[i]) = mkAt f c k xs (i + 1) := by
  have hl : ((mkL f c k xs).take i).length = i := by rw [List.length_take, mkL_len]; omega
  have h2 : i < (mkL f c k xs).length := by rw [mkL_len]; exact h
  unfold mkAt
  rw [List.take_succ_eq_append_getElem h2, mkL_get h, List.set_append, if_neg (by omega), hl, Nat.sub_self, List.append_assoc]
  congr 1
  rw [List.drop_eq_getElem_cons h]
  rfl
end
theorem sumL_one {α : Type} (xs : List α) : sumL (fun _ => 1) xs = xs.length := by
  induction xs with
  | nil => rfl
  | cons x r ih => simp only [sumL, ih, List.length_cons]; omega

def cntI (xs : List Int) : Int := xs.length
def cntRows (xs : List (List Int)) : Int := sumL cntI xs
def cntOp (x : Int × List Int) : Int := cntI x.2
def cntOp1 (x : Int × List Int) : Int := 1 + cntI x.2
def cntOps (xs : List (Int × List Int)) : Int := sumL cntOp1 xs
def cntRel (x : Int × List (List Int)) : Int := cntRows x.2
def cntRel1 (x : Int × List (List Int)) : Int := 1 + cntRows x.2
def cntRels (xs : List (Int × List (List Int))) : Int := sumL cntRel1 xs
def cntTpl (x : Int × List (Int × List (List Int))) : Int := cntRels x.2
def cntInst (x : Int × List (Int × List Int)) : Int := cntOps x.2
def cntFrm (x : Int × Int × List (Int × List Int)) : Int := cntOps x.2.2
theorem cntI_nn (xs : List Int) : 0 ≤ cntI xs := by unfold cntI; omega
theorem cntRows_nn (xs : List (List Int)) : 0 ≤ cntRows xs := sumL_nonneg cntI_nn xs
theorem cntOp1_nn (x : Int × List Int) : 0 ≤ cntOp1 x := by have := cntI_nn x.2; unfold cntOp1; omega
theorem cntOps_nn (xs : List (Int × List Int)) : 0 ≤ cntOps xs := sumL_nonneg cntOp1_nn xs
theorem cntRel1_nn (x : Int × List (List Int)) : 0 ≤ cntRel1 x := by have := cntRows_nn x.2; unfold cntRel1; omega
theorem cntRels_nn (xs : List (Int × List (List Int))) : 0 ≤ cntRels xs := sumL_nonneg cntRel1_nn xs
theorem sumL_mono {α : Type} {f g : α → Int} (h : ∀ x, f x ≤ g x) (xs : List α) : sumL f xs ≤ sumL g xs := by
  induction xs with
  | nil => exact Int.le_refl _
  | cons x r ih => have := h x; simp only [sumL]; omega
theorem sumL_add1 {α : Type} {f : α → Int} (xs : List α) : sumL (fun x => 1 + f x) xs = xs.length + sumL f xs := by
  induction xs with
  | nil => rfl
  | cons x r ih => simp only [sumL, ih, List.length_cons]; omega
theorem cntI_sz (xs : List Int) : cntI xs ≤ szInts xs := Int.le_refl _
theorem cntRows_sz (xs : List (List Int)) : cntRows xs ≤ szRows xs := by
  have : cntRows xs = sumL szInts xs := rfl
  unfold szRows szSl; omega
theorem cntOps_sz (xs : List (Int × List Int)) : cntOps xs ≤ szOps xs := by
  have : cntOps xs = xs.length + sumL (fun x => cntI x.2) xs := sumL_add1 (f := fun x : Int × List Int => cntI x.2) xs
  have h2 : sumL (fun x : Int × List Int => cntI x.2) xs = sumL szOp xs := rfl
  unfold szOps szSl; omega
theorem cntRels_sz (xs : List (Int × List (List Int))) : cntRels xs ≤ szRels xs := by
  have : cntRels xs = xs.length + sumL (fun x => cntRows x.2) xs := sumL_add1 (f := fun x : Int × List (List Int) => cntRows x.2) xs
  have h2 : sumL (fun x : Int × List (List Int) => cntRows x.2) xs ≤ sumL szRel xs := sumL_mono (fun x => cntRows_sz x.2) xs
  unfold szRels szSl; omega

def mkI (k : Int) (xs : List Int) : List Int := mkL (fun k _ => k) (fun _ => 1) k xs
def mkRows (k : Int) (xs : List (List Int)) : List (List Int) := mkL mkI cntI k xs
def mkOp1 (k : Int) (x : Int × List Int) : Int × List Int := (k, mkI (k + 1) x.2)
def mkOps (k : Int) (xs : List (Int × List Int)) : List (Int × List Int) := mkL mkOp1 cntOp1 k xs
def mkRel1 (k : Int) (x : Int × List (List Int)) : Int × List (List Int) := (k, mkRows (k + 1) x.2)
def mkRels (k : Int) (xs : List (Int × List (List Int))) : List (Int × List (List Int)) := mkL mkRel1 cntRel1 k xs
def mkOp (k : Int) (x : Int × List Int) : Int × List Int := (x.1, mkI k x.2)
def mkRel (k : Int) (x : Int × List (List Int)) : Int × List (List Int) := (x.1, mkRows k x.2)
def mkTpl (k : Int) (x : Int × List (Int × List (List Int))) : Int × List (Int × List (List Int)) := (x.1, mkRels k x.2)
def mkInst (k : Int) (x : Int × List (Int × List Int)) : Int × List (Int × List Int) := (x.1, mkOps k x.2)
def mkFrm (k : Int) (x : Int × Int × List (Int × List Int)) : Int × Int × List (Int × List Int) := (x.1, x.2.1, mkOps k x.2.2)
theorem cntI_len (xs : List Int) : sumL (fun _ => (1 : Int)) xs = cntI xs := sumL_one xs

/-! one element of a row -/
theorem nodup_flat {b n i : Nat} {fps : Nat → List Nat} (h : (b :: (List.range n).flatMap fps).Nodup) (hi : i < n) :
    (fps i).Nodup ∧ b ∉ fps i ∧ ∀ j, j < n → j ≠ i → ∀ k ∈ fps j, k ∉ fps i := by
  rw [List.nodup_cons] at h
  obtain ⟨h1, h2⟩ := h
  have h3 := List.pairwise_flatMap.1 h2
  refine ⟨h3.1 i (by simpa using hi), fun hb => h1 (List.mem_flatMap.2 ⟨i, by simpa using hi, hb⟩), fun j hj hne k hk hk' => ?_⟩
  have h4 := h3.2
  rw [List.pairwise_iff_getElem] at h4
  rcases Nat.lt_or_ge j i with hlt | hge
  · have := h4 j i (by simpa using hj) (by simpa using hi) hlt k (by simpa using hk) k (by simpa using hk')
    exact this rfl
  · have := h4 i j (by simpa using hi) (by simpa using hj) (by omega) k (by simpa using hk') k (by simpa using hk)
    exact this rfl

theorem rowRd.put {α : Type} {E : Ty α} {w w' : World} {b o : Nat} {xs : List α} {fps : Nat → List Nat} {i : Nat} {y : α} (h : rowRd E w b o xs fps) (_hi : i < xs.length)
    (hother : ∀ j, j < xs.length → j ≠ i → Same (fps j) w w' ∧ ∀ q, q < E.sz → w'.cell? ⟨b, o + j * E.sz + q, none⟩ = w.cell? ⟨b, o + j * E.sz + q, none⟩)
    (hthis : ∃ cs, E.rd w' cs y (fps i) ∧ ∀ j (hj : j < cs.length), w'.cell? ⟨b, o + i * E.sz + j, none⟩ = some cs[j]) : rowRd E w' b o (xs.set i y) fps := by
  intro j hj
  by_cases e : i = j
  · subst e
    simpa using hthis
  · have hj' : j < xs.length := by simpa using hj
    obtain ⟨cs, h1, h2⟩ := h j hj'
    obtain ⟨h3, h4⟩ := hother j hj' (fun e' => e e'.symm)
    refine ⟨cs, by rw [List.getElem_set_ne e]; exact E.same h1 h3, fun q hq => ?_⟩
    rw [h4 q (by rw [← E.len h1]; exact hq)]
    exact h2 q hq

theorem sl_open {α : Type} {E : Ty α} {w : World} {v : Value} {xs : List α} {fp : List Nat} (h : (Ty.slice E).rd w [v] xs fp) {i : Nat} (hi : i < xs.length) :
    ∃ b o cap fps, v = .slice (some ⟨b, o, none⟩) xs.length cap ∧ b < w.heap.size ∧ fp = b :: (List.range xs.length).flatMap fps ∧ rowRd E w b o xs fps ∧
      ∀ w' ys, rowRd E w' b o ys fps → ys.length = xs.length → b < w'.heap.size → (Ty.slice E).rd w' [v] ys fp := by
  obtain ⟨ad, cap, hv, h1, h2, h3⟩ := h
  obtain rfl : v = _ := by simpa using hv
  rcases h3 with h3 | ⟨h3, b, o, fps, rfl, hb, rfl, h4⟩
  · omega
  · refine ⟨b, o, cap, fps, rfl, hb, rfl, h4, fun w' ys hr hl hb' => ⟨some ⟨b, o, none⟩, cap, by rw [hl], by omega, by omega, .inr ⟨by omega, b, o, fps, rfl, hb', by rw [hl], hr⟩⟩⟩

/-- a number of a row: its cell, and the row behind a write -/
theorem ints_mark {w : World} {v : Value} {xs : List Int} {fp : List Nat} (h : intsT.rd w [v] xs fp) (_hn : fp.Nodup) (hu : Unf w fp) {i : Nat} (hi : i < xs.length) :
    ∃ b o cap, v = .slice (some ⟨b, o, none⟩) xs.length cap ∧ b < w.heap.size ∧ w.cell? ⟨b, o + i, none⟩ = some (.int .i64 xs[i]) ∧ w.frozen? ⟨b, o + i, none⟩ = false ∧
      ∀ n, I64 n → intsT.rd (w.setCell ⟨b, o + i, none⟩ (.int .i64 n)) [v] (xs.set i n) fp ∧ Unf (w.setCell ⟨b, o + i, none⟩ (.int .i64 n)) fp ∧ TchF fp w (w.setCell ⟨b, o + i, none⟩ (.int .i64 n)) := by
  obtain ⟨b, o, cap, fps, hv, hb, rfl, hr, hc⟩ := sl_open h hi
  have hcell : w.cell? ⟨b, o + i, none⟩ = some (.int .i64 xs[i]) := by
    obtain ⟨cs, ⟨rfl, _, _⟩, h2⟩ := hr i hi
    simpa [Ty.int] using h2 0 (by simp)
  refine ⟨b, o, cap, hv, hb, hcell, hu b (List.mem_cons_self ..) _, fun n hn => ⟨hc _ _ (hr.put hi (fun j hj hne => ⟨?_, fun q hq => ?_⟩) ⟨[.int .i64 n], ⟨rfl, hn, ?_⟩, fun j hj => ?_⟩) (by simp) (by simpa [World.setCell] using hb), fun k hk q => ?_, TchF.setCell (List.mem_cons_self ..) _ _ _⟩⟩
  · obtain ⟨cs, ⟨_, _, hf⟩, _⟩ := hr j hj
    rw [hf]; intro k hk; cases hk
  · refine World.cell?_setCell_other _ _ _ _ (fun e => ?_)
    have : q = 0 := by simpa [Ty.int] using hq
    simp [Ty.int] at e
    omega
  · obtain ⟨cs, ⟨_, _, hf⟩, _⟩ := hr i hi
    exact hf
  · obtain rfl : j = 0 := by simpa using hj
    simpa [Ty.int] using World.cell?_setCell_same _ _ (.int .i64 n) hcell
  · rw [World.frozen?_setCell]; exact hu k hk q

/-- a slice of a row of slices -/
theorem rows_mark {α : Type} {E : Ty α} {w : World} {v : Value} {xs : List (List α)} {fp : List Nat} (h : (Ty.slice (Ty.slice E)).rd w [v] xs fp) (hn : fp.Nodup) (hu : Unf w fp) {i : Nat} (hi : i < xs.length) :
    ∃ b o cap u f, v = .slice (some ⟨b, o, none⟩) xs.length cap ∧ b < w.heap.size ∧ w.cell? ⟨b, o + i, none⟩ = some u ∧ (Ty.slice E).rd w [u] xs[i] f ∧ f.Nodup ∧ Unf w f ∧
      ∀ w' y, TchF f w w' → (Ty.slice E).rd w' [u] y f → Unf w' f → (Ty.slice (Ty.slice E)).rd w' [v] (xs.set i y) fp ∧ Unf w' fp ∧ TchF fp w w' := by
  obtain ⟨b, o, cap, fps, hv, hb, rfl, hr, hc⟩ := sl_open h hi
  obtain ⟨n1, n2, n3⟩ := nodup_flat hn hi
  obtain ⟨cs, h1, h2⟩ := hr i hi
  obtain ⟨_, _, rfl, _⟩ := id h1
  have hcell := h2 0 (by simp)
  have hsub : ∀ k ∈ fps i, k ∈ b :: (List.range xs.length).flatMap fps := fun k hk => List.mem_cons_of_mem _ (List.mem_flatMap.2 ⟨i, by simpa using hi, hk⟩)
  refine ⟨b, o, cap, _, fps i, hv, hb, by simpa [Ty.slice] using hcell, h1, n1, fun k hk => hu k (hsub k hk), fun w' y ht hy hu' => ?_⟩
  have hbl : ∀ q, w'.cell? ⟨b, q, none⟩ = w.cell? ⟨b, q, none⟩ := fun q => ht.cell hb n2
  refine ⟨hc _ _ (hr.put hi (fun j hj hne => ⟨ht.same fun k hk => ⟨?_, n3 j hj hne k hk⟩, fun q _ => hbl _⟩) ⟨_, hy, fun j hj => ?_⟩) (by simp) (Nat.lt_of_lt_of_le hb ht.size), fun k hk q => ?_, ht.mono hsub⟩
  · obtain ⟨cs', h3, _⟩ := hr j hj
    exact (Ty.slice E).lt h3 k hk
  · rw [hbl]; exact h2 j hj
  · by_cases hk' : k ∈ fps i
    · exact hu' k hk' q
    · rw [ht.frozen ((Ty.slice (Ty.slice E)).lt h k hk) hk']; exact hu k hk q

/-- a struct of a row: its number is written first, then its slice -/
theorem pairs_mark {α : Type} {E : Ty α} {w : World} {v : Value} {xs : List (Int × List α)} {fp : List Nat} (h : (Ty.slice (Ty.cons (Ty.slice E))).rd w [v] xs fp) (hn : fp.Nodup) (hu : Unf w fp) {i : Nat} (hi : i < xs.length) :
    ∃ b o cap u f, v = .slice (some ⟨b, o, none⟩) xs.length cap ∧ b < w.heap.size ∧ w.cell? ⟨b, o + i * 2, none⟩ = some (.int .i64 xs[i].1) ∧ w.cell? ⟨b, o + i * 2 + 1, none⟩ = some u ∧ w.frozen? ⟨b, o + i * 2, none⟩ = false ∧
      ∀ n, I64 n → ∃ w1, w1 = w.setCell ⟨b, o + i * 2, none⟩ (.int .i64 n) ∧ w1.cell? ⟨b, o + i * 2 + 1, none⟩ = some u ∧ (Ty.slice E).rd w1 [u] xs[i].2 f ∧ f.Nodup ∧ Unf w1 f ∧ w1.heap.size = w.heap.size ∧
      ∀ w' y, TchF f w1 w' → (Ty.slice E).rd w' [u] y f → Unf w' f → (Ty.slice (Ty.cons (Ty.slice E))).rd w' [v] (xs.set i (n, y)) fp ∧ Unf w' fp ∧ TchF fp w w' := by
  obtain ⟨b, o, cap, fps, hv, hb, rfl, hr, hc⟩ := sl_open h hi
  obtain ⟨n1, n2, n3⟩ := nodup_flat hn hi
  obtain ⟨cs, ⟨cs', rfl, hI, h1⟩, h2⟩ := hr i hi
  obtain ⟨_, _, rfl, _⟩ := id h1
  have hcell0 := h2 0 (by simp)
  have hcell1 := h2 1 (by simp)
  simp [Ty.slice, Ty.cons] at hcell0 hcell1
  have hsub : ∀ k ∈ fps i, k ∈ b :: (List.range xs.length).flatMap fps := fun k hk => List.mem_cons_of_mem _ (List.mem_flatMap.2 ⟨i, by simpa using hi, hk⟩)
  refine ⟨b, o, cap, _, fps i, hv, hb, hcell0, hcell1, hu b (List.mem_cons_self ..) _, fun n hI' => ⟨_, rfl, ?_, ?_, n1, ?_, by simp [World.setCell], fun w' y ht hy hu' => ?_⟩⟩
  · rw [World.cell?_setCell_other _ _ _ _ (fun e => by simp at e)]; exact hcell1
  · exact (Ty.slice E).same h1 (same_set fun k hk e => n2 (by rw [e]; exact hk))
  · exact fun k hk q => by rw [World.frozen?_setCell]; exact hu k (hsub k hk) q
  have hsz : (w.setCell ⟨b, o + i * 2, none⟩ (.int .i64 n)).heap.size = w.heap.size := by simp [World.setCell]
  have hbl : ∀ q, w'.cell? ⟨b, q, none⟩ = (w.setCell ⟨b, o + i * 2, none⟩ (.int .i64 n)).cell? ⟨b, q, none⟩ := fun q => ht.cell (by rw [hsz]; exact hb) n2
  have hts : TchF (b :: (List.range xs.length).flatMap fps) w (w.setCell ⟨b, o + i * 2, none⟩ (.int .i64 n)) := TchF.setCell (List.mem_cons_self ..) _ _ _
  refine ⟨hc _ _ (hr.put hi (fun j hj hne => ⟨?_, fun q hq => ?_⟩) ⟨.int .i64 n :: _, ⟨_, rfl, hI', hy⟩, fun j hj => ?_⟩) (by simp) (Nat.lt_of_lt_of_le (by rw [hsz]; exact hb) ht.size), fun k hk q => ?_, hts.trans (ht.mono hsub)⟩
  · obtain ⟨cs', h3, _⟩ := hr j hj
    obtain ⟨m1, m2, m3⟩ := nodup_flat hn hj
    refine Same.trans (same_set fun k hk e => m2 (by rw [e]; exact hk)) (ht.same fun k hk => ⟨?_, n3 j hj hne k hk⟩)
    rw [hsz]
    exact (Ty.cons (Ty.slice E)).lt h3 k hk
  · rw [hbl]
    refine World.cell?_setCell_other _ _ _ _ (fun e => ?_)
    simp [Ty.slice, Ty.cons] at e hq
    omega
  · rw [hbl]
    rcases (show j = 0 ∨ j = 1 by simp at hj; omega) with rfl | rfl
    · simpa [Ty.slice, Ty.cons] using World.cell?_setCell_same _ _ (.int .i64 n) hcell0
    · rw [World.cell?_setCell_other _ _ _ _ (fun e => by simp [Ty.slice, Ty.cons] at e)]
      simpa [Ty.slice, Ty.cons] using hcell1
  · by_cases hk' : k ∈ fps i
    · exact hu' k hk' q
    · rw [ht.frozen (by rw [hsz]; exact (Ty.slice (Ty.cons (Ty.slice E))).lt h k hk) hk', World.frozen?_setCell]; exact hu k hk q

theorem rd_pair {α : Type} {E : Ty α} {w : World} {cs : List Value} {x : Int × List α} {fp : List Nat} (h : (Ty.cons (Ty.slice E)).rd w cs x fp) :
    ∃ u, cs = [.int .i64 x.1, u] ∧ (Ty.slice E).rd w [u] x.2 fp ∧ ∀ w' y, (Ty.slice E).rd w' [u] y fp → (Ty.cons (Ty.slice E)).rd w' [.int .i64 x.1, u] (x.1, y) fp := by
  obtain ⟨cs', rfl, hI, h1⟩ := h
  obtain ⟨_, _, rfl, _⟩ := id h1
  exact ⟨_, rfl, h1, fun w' y hy => ⟨_, rfl, hI, hy⟩⟩
theorem rd_trip {α : Type} {E : Ty α} {w : World} {cs : List Value} {x : Int × Int × List α} {fp : List Nat} (h : (Ty.cons (Ty.cons (Ty.slice E))).rd w cs x fp) :
    ∃ u, cs = [.int .i64 x.1, .int .i64 x.2.1, u] ∧ (Ty.slice E).rd w [u] x.2.2 fp ∧ ∀ w' y, (Ty.slice E).rd w' [u] y fp → (Ty.cons (Ty.cons (Ty.slice E))).rd w' [.int .i64 x.1, .int .i64 x.2.1, u] (x.1, x.2.1, y) fp := by
  obtain ⟨cs', rfl, hI, h1⟩ := h
  obtain ⟨u, rfl, h2, h3⟩ := rd_pair h1
  exact ⟨u, rfl, h2, fun w' y hy => ⟨_, rfl, hI, h3 _ _ hy⟩⟩

/-! memory between two numbers -/
/-- reads so in blocks from lo up to hi, each once, none frozen -/
def Ty.Fx {α : Type} (E : Ty α) (lo hi : Nat) (w : World) (cs : List Value) (x : α) : Prop := ∃ fp, E.rd w cs x fp ∧ fp.Nodup ∧ (∀ b ∈ fp, lo ≤ b ∧ b < hi) ∧ Unf w fp
theorem Ty.Fx.rd {α : Type} {E : Ty α} {lo hi : Nat} {w : World} {cs : List Value} {x : α} (h : E.Fx lo hi w cs x) : E.Rd w cs x := let ⟨fp, h, _⟩ := h; ⟨fp, h⟩
theorem Ty.Fr.fx {α : Type} {E : Ty α} {lo : Nat} {w : World} {cs : List Value} {x : α} (h : E.Fr lo w cs x) : E.Fx lo w.heap.size w cs x :=
  let ⟨fp, h1, h2, h3, h4⟩ := h; ⟨fp, h1, h2, fun b hb => ⟨h3 b hb, E.lt h1 b hb⟩, h4⟩
theorem Ty.Fx.below {α : Type} {E : Ty α} {lo hi : Nat} {w w' : World} {cs : List Value} {x : α} (h : E.Fx lo hi w cs x) (hb : Below w.heap.size w w') : E.Fx lo hi w' cs x :=
  let ⟨fp, h1, h2, h3, h4⟩ := h
  have hs : Same fp w w' := Same.below hb (E.lt h1)
  ⟨fp, E.same h1 hs, h2, h3, h4.same hs⟩
/-- all old blocks but those from lo up to hi are as before -/
structure Tch (lo hi : Nat) (w w' : World) : Prop where
  os : w'.os = w.os
  tape : w'.tape = w.tape
  output : w'.output = w.output
  size : w.heap.size ≤ w'.heap.size
  block : ∀ k, k < w.heap.size → (k < lo ∨ hi ≤ k) → w'.heap[k]? = w.heap[k]?
theorem TchF.tch {fp : List Nat} {lo hi : Nat} {w w' : World} (h : TchF fp w w') (hf : ∀ b ∈ fp, lo ≤ b ∧ b < hi) : Tch lo hi w w' :=
  ⟨h.os, h.tape, h.output, h.size, fun k hk hn => h.block k hk fun hm => by have := hf k hm; omega⟩
theorem Tch.cell {lo hi : Nat} {w w' : World} (h : Tch lo hi w w') {b o : Nat} (hb : b < w.heap.size) (hn : b < lo ∨ hi ≤ b) : w'.cell? ⟨b, o, none⟩ = w.cell? ⟨b, o, none⟩ := World.cell?_of_block (w := w) (h.block b hb hn)
theorem Ty.Fx.tch {α : Type} {E : Ty α} {lo hi lo' hi' : Nat} {w w' : World} {cs : List Value} {x : α} (h : E.Fx lo hi w cs x) (ht : Tch lo' hi' w w') (hd : hi ≤ lo' ∨ hi' ≤ lo) : E.Fx lo hi w' cs x :=
  let ⟨fp, h1, h2, h3, h4⟩ := h
  have hs : Same fp w w' := fun k hk => ht.block k (E.lt h1 k hk) (by have := h3 k hk; omega)
  ⟨fp, E.same h1 hs, h2, h3, h4.same hs⟩
def frTA {α : Type} (E : Ty α) (base : Nat) (x : α) (n : Value) : VP := fun v W => ∃ cs : List Value, v = .tuple #[.agg cs.toArray, n] ∧ E.Fr base W cs x
def frTS {α : Type} (E : Ty α) (base : Nat) (x : α) (n : Value) : VP := fun v W => ∃ u : Value, v = .tuple #[u, n] ∧ E.Fr base W [u] x
theorem st_frTA {α : Type} {E : Ty α} {base : Nat} {x : α} {n : Value} : Stab (frTA E base x n) := fun _ _ _ ⟨cs, h1, h2⟩ hb => ⟨cs, h1, h2.below hb⟩
theorem st_frTS {α : Type} {E : Ty α} {base : Nat} {x : α} {n : Value} : Stab (frTS E base x n) := fun _ _ _ ⟨cs, h1, h2⟩ hb => ⟨cs, h1, h2.below hb⟩
theorem below_tch {B lo hi : Nat} {a w w' : World} (h : Below B a w) (ht : Tch lo hi w w') (hB : B ≤ lo) (hs : B ≤ w.heap.size) : Below B a w' :=
  ⟨ht.os.trans h.os, ht.tape.trans h.tape, ht.output.trans h.output, Nat.le_trans h.size ht.size, fun k hk => (ht.block k (by omega) (by omega)).trans (h.block k hk)⟩
/-- an append at a step of a region that draws its order -/
theorem step_push {P : Program} {K : Act → World → Prop} {Ee : Prop} {α : Type} {E : Ty α} (w : World) {ops : Array Oper} {o : Oper} {a : Act} {Q : Exit → Act → World → Prop} (hgd : o.guard = none) (s x : Operand) (t e : TypeId) {bytes : Nat}
    (ho : o.op = .call { callee := .builtin .append, args := #[s, x], argTypes := #[t, t] }) (hT : ElT P t e E.sz bytes)
    {base top : Nat} {v : Value} {ys : List α} (hs : a.eval s = v) (hB : Bl E e base top w v ys)
    {ad : Addr} {c : Nat} {cs : List Value} {y : α} (hx : a.eval x = .slice (some ad) 1 c) (hnews : ∀ j u, cs[j]? = some u → w.cell? (ad.add j) = some u) (hy : E.Fr top w cs y)
    (hlen : ys.length ≤ 1000000000) (hby : bytes ≤ 100000) (hbt : base ≤ top) (htop : top ≤ w.heap.size)
    (h : ∀ v' w', Bl E e base w'.heap.size w' v' (ys ++ [y]) → w.grownBy w' v.ownBlock → (v'.ownBlock = v.ownBlock ∨ v'.ownBlock = some w.heap.size) → K (a.put o.dst v') w') : if Region.wanted o (yielded ops a.tmps) = true then Oper.wp P o a w K Q else Ee := by
  rw [if_pos (by simp [Region.wanted, hgd])]
  obtain ⟨L, fps, g1, g2, g3, g4, g5, g6⟩ := hB
  obtain ⟨fp, k1, k2, k3, k4⟩ := hy
  obtain ⟨i, z, ht, hi, hz, hsz, hbt', hzs, hp⟩ := id hT
  have hcl := E.len k1
  have hlen' : (ys.length + 1) * bytes ≤ 140737488355328 := Nat.le_trans (Nat.mul_le_mul (show ys.length + 1 ≤ 1000000001 by omega) hby) (by decide)
  have hbase : base ≤ w.heap.size := Nat.le_trans hbt htop
  obtain ⟨v', w', hr, h2, h3, h4⟩ := run_append_own (P := P) w base t o.type e i z E.sz bytes ht hi hz hsz hbt' hzs hp v ys.length L g1 ad 1 c cs (by omega) hnews (E.one k1) (by unfold maxLen; omega) hlen' hbase
  have hblk := run_push_block w base t o.type e hT v ys.length L g1 ad 1 c cs (by omega) hnews (E.one k1) (by unfold maxLen; omega) hlen' (by omega) v' w' hr
  have hS : ∀ k, v.ownBlock ≠ some k → k < w.heap.size → w'.heap[k]? = w.heap[k]? := fun k hk hlt => h3.block k hlt (fun he => hk he.symm)
  have hlt1 : ∀ b ∈ flat fps ys.length, b < w.heap.size := fun b hb => Nat.lt_of_lt_of_le (g4 b hb).2.1 htop
  have hlt2 : ∀ b ∈ fp, b < w.heap.size := E.lt k1
  have hS1 : Same (flat fps ys.length) w w' := fun k hk => hS k (g4 k hk).2.2 (hlt1 k hk)
  have hne : ∀ b ∈ fp, v.ownBlock ≠ some b := fun b hb he => by have := g5 b he; have := k3 b hb; omega
  have hS2 : Same fp w w' := fun k hk => hS k (hne k hk) (hlt2 k hk)
  have hBl : Bl E e base w'.heap.size w' v' (ys ++ [y]) := by
    refine ⟨L ++ cs, fun i => if i = ys.length then fp else fps i, by simpa using h2, el_add (fun i hi => ?_) g1.1 (E.same k1 hS2), ?_, ?_, ?_, ?_⟩
    · obtain ⟨cs', h7, h8⟩ := g2 i hi
      exact ⟨cs', E.same h7 (fun k hk => hS1 k (List.mem_flatMap.2 ⟨i, by simpa using hi, hk⟩)), h8⟩
    · rw [List.length_append, List.length_singleton, flat_add]
      exact List.nodup_append.2 ⟨g3, k2, fun a ha b hb he => by subst he; have := (g4 a ha).2.1; have := k3 a hb; omega⟩
    · rw [List.length_append, List.length_singleton, flat_add]
      intro b hb
      have hsz' := h3.size
      rcases List.mem_append.1 hb with hb | hb
      · refine ⟨(g4 b hb).1, by have := hlt1 b hb; omega, ?_⟩
        rcases hblk with e1 | e1 <;> rw [e1]
        · exact (g4 b hb).2.2
        · intro he; have := hlt1 b hb; simp at he; omega
      · refine ⟨by have := k3 b hb; omega, by have := hlt2 b hb; omega, ?_⟩
        rcases hblk with e1 | e1 <;> rw [e1]
        · exact hne b hb
        · intro he; have := hlt2 b hb; simp at he; omega
    · intro g hg
      exact (h2.lt g hg).2
    · rw [List.length_append, List.length_singleton, flat_add]
      intro b hb
      rcases List.mem_append.1 hb with hb | hb
      · exact g6.same hS1 b hb
      · exact k4.same hS2 b hb
  unfold Oper.wp execOp
  simp only [ho, resolve, invoke, builtin, Sem.run_bind, Sem.run_pure, Result.andThen_ok, List.map_toArray, List.map_cons, List.map_nil, hs, hx, hr]
  exact h v' w' hBl h3 hblk
end Go.Proofs.YthjafhjghjbdmaaGreat
namespace Go.Proofs.YthjafhjghjbdmaaGreat
open Go.RowKit Go.Sort

/-- a struct in new memory, and a code -/
def RetAC {α : Type} (E : Ty α) (w : World) (x : α) (c : Int) (e : Ending) (w' : World) : Prop := ∃ cs : List Value, e = .returned (.tuple #[.agg cs.toArray, .int .i64 c]) ∧ E.Fr w.heap.size w' cs x ∧ Below w.heap.size w w'
/-- a slice in new memory, and a code -/
def RetSC {α : Type} (E : Ty α) (w : World) (x : α) (c : Int) (e : Ending) (w' : World) : Prop := ∃ u, e = .returned (.tuple #[u, .int .i64 c]) ∧ E.Fr w.heap.size w' [u] x ∧ Below w.heap.size w w'
def frm0 : Int × Int × List (Int × List Int) := (0, 0, [])
theorem fr_frm0 {base : Nat} {w : World} : frmT.Fr base w [.int .i64 0, .int .i64 0, .slice none 0 0] frm0 := fr_cons (I64.small (by omega) (by omega)) (fr_cons (I64.small (by omega) (by omega)) fr_nil)
def upL (from0 : Int) (n : Nat) : List Int := (List.range n).map fun i : Nat => from0 + (i : Int)
theorem upL_len {a : Int} {n : Nat} : (upL a n).length = n := by simp [upL]
theorem upL_succ (a : Int) (n : Nat) : upL a n ++ [a + (n : Int)] = upL a (n + 1) := by simp [upL, List.range_succ]
theorem upL_zero (a : Int) : upL a 0 = [] := rfl
/-- a slice of one pair, just made -/
theorem fr_one {α : Type} {E : Ty α} {base : Nat} {w : World} {n : Int} {u : Value} {x : List α} {T : TypeId} {g : Nat} (hI : I64 n) (h : (Ty.slice E).Fr base w [u] x) (hg : w.heap.size = g) (hb : base ≤ g) :
    (Ty.slice (Ty.cons (Ty.slice E))).Fr base (w.alloc (.cells #[.int .i64 n, u] T)) [.slice (some ⟨g, 0, none⟩) 1 1] [(n, x)] := by
  subst hg
  obtain ⟨fp, h1, h2, h3, h4⟩ := h
  have hs : Same fp w (w.alloc (.cells #[.int .i64 n, u] T)) := Same.below bA ((Ty.slice E).lt h1)
  have hlt := (Ty.slice E).lt h1
  refine ⟨w.heap.size :: fp, ⟨some ⟨w.heap.size, 0, none⟩, 1, rfl, Nat.le_refl _, by simp [capMax], .inr ⟨by simp, w.heap.size, 0, fun _ => fp, rfl, by simp, by simp, fun i hi => ?_⟩⟩, ?_, ?_, ?_⟩
  · obtain rfl : i = 0 := by simpa using hi
    refine ⟨[.int .i64 n, u], ⟨[u], rfl, hI, (Ty.slice E).same h1 hs⟩, fun j hj => ?_⟩
    rcases (show j = 0 ∨ j = 1 by simp at hj; omega) with rfl | rfl <;> simp
  · exact List.nodup_cons.2 ⟨fun hm => by have := hlt _ hm; omega, h2⟩
  · intro b hb'
    rcases List.mem_cons.1 hb' with rfl | hb'
    · exact hb
    · exact h3 b hb'
  · intro b hb' o
    rcases List.mem_cons.1 hb' with rfl | hb'
    · unfold World.frozen?; rw [heap_alloc_new]; simp
    · exact h4.same hs b hb' o
/-- a result of three cells, stored -/
abbrev set3 (w : World) (b : Nat) (x y z : Value) : World := ((w.setCell ⟨b, 0, none⟩ x).setCell ⟨b, 1, none⟩ y).setCell ⟨b, 2, none⟩ z
theorem set3_cells {w : World} {b : Nat} {x y z x' y' z' : Value} (h0 : w.cell? ⟨b, 0, none⟩ = some x') (h1 : w.cell? ⟨b, 1, none⟩ = some y') (h2 : w.cell? ⟨b, 2, none⟩ = some z') :
    (set3 w b x y z).cell? ⟨b, 0, none⟩ = some x ∧ (set3 w b x y z).cell? ⟨b, 1, none⟩ = some y ∧ (set3 w b x y z).cell? ⟨b, 2, none⟩ = some z := by
  have e1 : (w.setCell ⟨b, 0, none⟩ x).cell? ⟨b, 1, none⟩ = some y' := (World.cell?_setCell_other _ _ _ _ (by simp)).trans h1
  have e2 : ((w.setCell ⟨b, 0, none⟩ x).setCell ⟨b, 1, none⟩ y).cell? ⟨b, 2, none⟩ = some z' := (World.cell?_setCell_other _ _ _ _ (by simp)).trans ((World.cell?_setCell_other _ _ _ _ (by simp)).trans h2)
  exact ⟨(World.cell?_setCell_other _ _ _ _ (by simp)).trans ((World.cell?_setCell_other _ _ _ _ (by simp)).trans (World.cell?_setCell_same _ _ _ h0)), (World.cell?_setCell_other _ _ _ _ (by simp)).trans (World.cell?_setCell_same _ _ _ e1), World.cell?_setCell_same _ _ _ e2⟩
theorem set3_alloc {w : World} {b : Nat} {x y z x' y' z' : Value} {o : Obj} (h0 : w.cell? ⟨b, 0, none⟩ = some x') (h1 : w.cell? ⟨b, 1, none⟩ = some y') (h2 : w.cell? ⟨b, 2, none⟩ = some z') :
    ((set3 w b x y z).alloc o).cell? ⟨b, 0, none⟩ = some x ∧ ((set3 w b x y z).alloc o).cell? ⟨b, 1, none⟩ = some y ∧ ((set3 w b x y z).alloc o).cell? ⟨b, 2, none⟩ = some z := by
  obtain ⟨g0, g1, g2⟩ := set3_cells (x := x) (y := y) (z := z) h0 h1 h2
  have hb := cell_lt g0
  exact ⟨(World.cell?_alloc_lt _ _ _ hb).trans g0, (World.cell?_alloc_lt _ _ _ hb).trans g1, (World.cell?_alloc_lt _ _ _ hb).trans g2⟩
theorem Ty.Fr.set3 {α : Type} {E : Ty α} {base : Nat} {w : World} {cs : List Value} {v : α} {b : Nat} {x y z : Value} (h : E.Fr base w cs v) (hb : b < base) : E.Fr base (set3 w b x y z) cs v := ((h.set hb).set hb).set hb
theorem set3_size {w : World} {b : Nat} {x y z : Value} : (set3 w b x y z).heap.size = w.heap.size := by simp [World.setCell]
theorem set3_below {B : Nat} {a w : World} {b : Nat} {x y z : Value} (h : Below B a w) (hb : B ≤ b) : Below B a (set3 w b x y z) := ((h.setCell hb _).setCell hb _).setCell hb _

noncomputable def atomV (t : Int × List (Int × List (List Int))) (rel : Int) : Int × Int × List (Int × List Int) :=
  match tb (tplOk t) && inB rel 0 ((t.2.length : Int) - 1) with
  | true => (arOf t rel, arOf t rel, [(rel, upL 0 (arOf t rel).toNat)])
  | false => frm0
noncomputable def atomC (t : Int × List (Int × List (List Int))) (rel : Int) : Int :=
  match tb (tplOk t), inB rel 0 ((t.2.length : Int) - 1) with
  | false, _ => 1
  | true, false => 2
  | true, true => 0
section
variable {t : Int × List (Int × List (List Int))} {rel : Int}
theorem atom_1 (h : tb (tplOk t) = false) : atomV t rel = frm0 ∧ atomC t rel = 1 := by simp [atomV, atomC, h]
theorem atom_2 (h : tb (tplOk t) = true) (h2 : inB rel 0 ((t.2.length : Int) - 1) = false) : atomV t rel = frm0 ∧ atomC t rel = 2 := by simp [atomV, atomC, h, h2]
theorem atom_0 (h : tb (tplOk t) = true) (h2 : inB rel 0 ((t.2.length : Int) - 1) = true) : atomV t rel = (arOf t rel, arOf t rel, [(rel, upL 0 (arOf t rel).toNat)]) ∧ atomC t rel = 0 := by simp [atomV, atomC, h, h2]
theorem arOf_bd (h : tplOk t) (h2 : inB rel 0 ((t.2.length : Int) - 1) = true) : 0 ≤ arOf t rel ∧ arOf t rel ≤ 4 := by
  have h3 := inB_true.1 h2
  obtain ⟨k, rfl⟩ : ∃ k : Nat, rel = k := ⟨rel.toNat, by omega⟩
  have hk : k < t.2.length := by omega
  rw [arOf_nat hk]
  have := (h.2.2 _ (List.getElem_mem hk)).2.1
  unfold sizeOk at this
  omega
theorem atom_cnt : cntFrm (atomV t rel) ≤ 1000000 := by
  unfold atomV
  cases h : tb (tplOk t) && inB rel 0 ((t.2.length : Int) - 1)
  · simp [frm0, cntFrm, cntOps, sumL]
  · rw [Bool.and_eq_true] at h
    have := arOf_bd (tb_iff.1 h.1) h.2
    simp only [cntFrm, cntOps, sumL, cntOp1, cntI, upL_len]
    omega
end
end Go.Proofs.YthjafhjghjbdmaaGreat
namespace Go.Proofs.YthjafhjghjbdmaaGreat
open Go.RowKit Go.Sort
theorem news2 {w : World} {u u' : Value} {T : TypeId} : ∀ j x, [u, u'][j]? = some x → (w.alloc (.cells #[u, u'] T)).cell? ((⟨w.heap.size, 0, none⟩ : Addr).add j) = some x := by
  intro j x h
  match j with
  | 0 => simp at h; subst h; simp [Addr.add]
  | 1 => simp at h; subst h; simp [Addr.add]
  | j + 2 => simp at h
def movedL (mv : List Int) (xs : List (Int × List Int)) : List (Int × List Int) := xs.map fun a => (a.1, atL mv a.2)
theorem movedL_len {mv : List Int} {xs : List (Int × List Int)} : (movedL mv xs).length = xs.length := by simp [movedL]
theorem movedL_take {mv : List Int} {xs : List (Int × List Int)} {k : Nat} (h : k < xs.length) : movedL mv (xs.take k) ++ [((xs[k]).1, atL mv (xs[k]).2)] = movedL mv (xs.take (k + 1)) := by
  simp only [movedL]
  rw [List.take_succ_eq_append_getElem h, List.map_append]
  rfl
end Go.Proofs.YthjafhjghjbdmaaGreat
namespace Go.Proofs.YthjafhjghjbdmaaGreat
open Go.RowKit Go.Sort
/-- variables renamed by a function -/
def rnL (g : Int → Int) (xs : List (Int × List Int)) : List (Int × List Int) := xs.map fun a => (a.1, a.2.map g)
def toL (g : Int → Int) (n : Nat) : List Int := (List.range n).map fun i : Nat => g (i : Int)
theorem toL_len {g : Int → Int} {n : Nat} : (toL g n).length = n := by simp [toL]
theorem toL_succ (g : Int → Int) (n : Nat) : toL g n ++ [g (n : Int)] = toL g (n + 1) := by simp [toL, List.range_succ]
theorem atL_toL {g : Int → Int} {n : Nat} {ps : List Int} (h : ∀ p ∈ ps, 0 ≤ p ∧ p < (n : Int)) : atL (toL g n) ps = ps.map g := by
  unfold atL
  apply List.map_congr_left
  intro p hp
  obtain ⟨h1, h2⟩ := h p hp
  have h3 : p.toNat < n := by omega
  rw [List.getD_eq_getElem?_getD, List.getElem?_eq_getElem (by rw [toL_len]; exact h3)]
  simp only [toL, List.getElem_map, List.getElem_range, Option.getD_some]
  congr 1
  omega
theorem movedL_toL {g : Int → Int} {n : Nat} {xs : List (Int × List Int)} (h : ∀ a ∈ xs, ∀ p ∈ a.2, 0 ≤ p ∧ p < (n : Int)) : movedL (toL g n) xs = rnL g xs := by
  unfold movedL rnL
  apply List.map_congr_left
  intro a ha
  rw [atL_toL (h a ha)]
theorem rnL_cnt {g : Int → Int} (xs : List (Int × List Int)) : cntOps (rnL g xs) = cntOps xs := by
  induction xs with
  | nil => rfl
  | cons a r ih =>
    have h1 : cntOps (rnL g (a :: r)) = cntOp1 (a.1, a.2.map g) + cntOps (rnL g r) := rfl
    have h2 : cntOps (a :: r) = cntOp1 a + cntOps r := rfl
    rw [h1, h2, ih]
    simp [cntOp1, cntI]
def hideTo (vars var v : Int) : Int := match decide (v = var), decide (var < v) with
  | true, _ => vars - 1
  | false, true => v - 1
  | false, false => v
theorem hideTo_eq {vars var v : Int} (h : v = var) : hideTo vars var v = vars - 1 := by simp [hideTo, h]
theorem hideTo_gt {vars var v : Int} (h : var < v) : hideTo vars var v = v - 1 := by
  have : ¬ v = var := by omega
  simp [hideTo, h, this]
theorem hideTo_lt {vars var v : Int} (h : v < var) : hideTo vars var v = v := by
  have h1 : ¬ v = var := by omega
  have h2 : ¬ var < v := by omega
  simp [hideTo, h1, h2]
theorem hideTo_I {vars var v : Int} (h : 0 ≤ v ∧ v ≤ 1000) (h2 : 0 ≤ vars ∧ vars ≤ 1000) : I64 (hideTo vars var v) := by
  rcases Int.lt_trichotomy v var with h3 | h3 | h3
  · rw [hideTo_lt h3]; exact I64.small (by omega) (by omega)
  · rw [hideTo_eq h3]; exact I64.small (by omega) (by omega)
  · rw [hideTo_gt h3]; exact I64.small (by omega) (by omega)
section
variable (t : Int × List (Int × List (List Int))) (f : Int × Int × List (Int × List Int)) (v : Int)
noncomputable def hideC : Int := match tb (frmOk t f), inB v 0 (f.1 - 1), (f.1 == 1) with
  | false, _, _ => 1
  | true, false, _ => 2
  | true, true, true => 4
  | true, true, false => 0
noncomputable def hideV : Int × Int × List (Int × List Int) := match tb (frmOk t f), inB v 0 (f.1 - 1), (f.1 == 1) with
  | true, true, false => (f.1 - 1, f.2.1, rnL (hideTo f.2.1 v) f.2.2)
  | _, _, _ => frm0
end
section
variable {t : Int × List (Int × List (List Int))} {f : Int × Int × List (Int × List Int)} {v : Int}
theorem hide_1 (h : tb (frmOk t f) = false) : hideV t f v = frm0 ∧ hideC t f v = 1 := by simp [hideV, hideC, h]
theorem hide_2 (h : tb (frmOk t f) = true) (h2 : inB v 0 (f.1 - 1) = false) : hideV t f v = frm0 ∧ hideC t f v = 2 := by simp [hideV, hideC, h, h2]
theorem hide_4 (h : tb (frmOk t f) = true) (h2 : inB v 0 (f.1 - 1) = true) (h3 : (f.1 == 1) = true) : hideV t f v = frm0 ∧ hideC t f v = 4 := by simp [hideV, hideC, h, h2, h3]
theorem hide_0 (h : tb (frmOk t f) = true) (h2 : inB v 0 (f.1 - 1) = true) (h3 : (f.1 == 1) = false) : hideV t f v = (f.1 - 1, f.2.1, rnL (hideTo f.2.1 v) f.2.2) ∧ hideC t f v = 0 := by simp [hideV, hideC, h, h2, h3]
theorem arOf_le (h : tplOk t) (rel : Int) : 0 ≤ arOf t rel ∧ arOf t rel ≤ 4 := by
  by_cases h1 : rel = -1
  · subst h1; rw [arOf_eq]; omega
  · cases h2 : inB rel 0 ((t.2.length : Int) - 1)
    · rw [arOf_no h1 h2]; omega
    · exact arOf_bd h h2
theorem frm_bd (h : tb (frmOk t f) = true) : 1 ≤ f.1 ∧ f.1 ≤ f.2.1 ∧ f.2.1 ≤ 8 ∧ f.2.2.length ≤ 16 ∧ ∀ a ∈ f.2.2, (∀ p ∈ a.2, 0 ≤ p ∧ p < f.2.1) ∧ a.2.length ≤ 4 := by
  have h := tb_iff.1 h
  obtain ⟨h1, ⟨h2, h3, h4⟩, h5⟩ := h
  refine ⟨by omega, by omega, by omega, h4, fun a ha => ?_⟩
  obtain ⟨_, h6, h7⟩ := h5 a ha
  have h8 := arOf_le h1 a.1
  refine ⟨fun p hp => ?_, by omega⟩
  have := h7 p hp
  omega
theorem cntOps_bd : ∀ {xs : List (Int × List Int)}, (∀ a ∈ xs, a.2.length ≤ 4) → cntOps xs ≤ 5 * xs.length
  | [], _ => by simp [cntOps, sumL]
  | a :: r, h => by
    have h1 := h a (List.mem_cons_self ..)
    have h2 := cntOps_bd (xs := r) fun b hb => h b (List.mem_cons_of_mem _ hb)
    have h3 : cntOps (a :: r) = cntOp1 a + cntOps r := rfl
    rw [h3, List.length_cons]
    simp only [cntOp1, cntI]
    omega
theorem hide_cnt : cntFrm (hideV t f v) ≤ 1000000 := by
  cases h1 : tb (frmOk t f)
  · rw [(hide_1 h1).1]; simp [frm0, cntFrm, cntOps, sumL]
  cases h2 : inB v 0 (f.1 - 1)
  · rw [(hide_2 h1 h2).1]; simp [frm0, cntFrm, cntOps, sumL]
  cases h3 : (f.1 == 1)
  · rw [(hide_0 h1 h2 h3).1]
    obtain ⟨_, _, _, h4, h5⟩ := frm_bd h1
    have := cntOps_bd (xs := f.2.2) fun a ha => (h5 a ha).2
    simp only [cntFrm, rnL_cnt]
    omega
  · rw [(hide_4 h1 h2 h3).1]; simp [frm0, cntFrm, cntOps, sumL]
end
theorem wrap_small {n : Int} (h0 : -1000000000000000000 ≤ n) (h1 : n ≤ 1000000000000000000) : IntKind.i64.wrap n = n := by
  simp [IntKind.wrap, IntKind.signed, IntKind.bits]
  omega
end Go.Proofs.YthjafhjghjbdmaaGreat
namespace Go.Proofs.YthjafhjghjbdmaaGreat
open Go.RowKit Go.Sort
theorem rnL_take {g : Int → Int} {xs : List (Int × List Int)} {k : Nat} (h : k < xs.length) : rnL g (xs.take k) ++ [((xs[k]).1, (xs[k]).2.map g)] = rnL g (xs.take (k + 1)) := by
  simp only [rnL]
  rw [List.take_succ_eq_append_getElem h, List.map_append]
  rfl
theorem rnL_len {g : Int → Int} {xs : List (Int × List Int)} : (rnL g xs).length = xs.length := by simp [rnL]
theorem map_take {g : Int → Int} {xs : List Int} {k : Nat} (h : k < xs.length) : (xs.take k).map g ++ [g xs[k]] = (xs.take (k + 1)).map g := by
  rw [List.take_succ_eq_append_getElem h, List.map_append]
  rfl
theorem size_set {w : World} {a : Addr} {u : Value} : (w.setCell a u).heap.size = w.heap.size := by simp [World.setCell]
theorem ex_slice {α : Type} {E : Ty α} {base : Nat} {w : World} {u : Value} {x : List α} (h : (Ty.slice E).Fr base w [u] x) : ∃ ad n cap, u = .slice ad n cap := let ⟨a, c, h⟩ := fr_slice h; ⟨a, _, c, h⟩
theorem rd_sl {α : Type} {E : Ty α} {w : World} {u : Value} {x : List α} (h : (Ty.slice E).Rd w [u] x) : ∃ ad n cap, u = .slice ad n cap := let ⟨a, c, h⟩ := rd_slice h; ⟨a, _, c, h⟩
end Go.Proofs.YthjafhjghjbdmaaGreat
namespace Go.Proofs.YthjafhjghjbdmaaGreat
open Go.RowKit Go.Sort
end Go.Proofs.YthjafhjghjbdmaaGreat
namespace Go.Proofs.YthjafhjghjbdmaaGreat
open Go.RowKit Go.Sort
theorem flat_nil (n : Nat) : flat (fun _ => []) n = [] := List.eq_nil_iff_forall_not_mem.2 fun x hx => by obtain ⟨_, _, h⟩ := List.mem_flatMap.1 hx; cases h
theorem wpList_appI {P : Program} (w : World) {ops : Array Oper} {rest : List Oper} {o : Oper} {a : Act} {Q : Exit → Act → World → Prop} (hgd : o.guard = none) (s x : Operand) (t e : TypeId) {bytes : Nat}
    (ho : o.op = .call { callee := .builtin .append, args := #[s, x], argTypes := #[t, t] }) (hT : ElT P t e 1 bytes)
    {base top : Nat} {v : Value} {ys : List Int} (hs : a.eval s = v) (hB : Bl Ty.int e base top w v ys)
    {u : Value} {xs : List Int} (hx : a.eval x = u) (hr : intsT.Rd w [u] xs) (h0 : 0 < xs.length)
    (hlen : ys.length + xs.length ≤ 1000000000) (hby : bytes ≤ 100000) (hbt : base ≤ top) (htop : top ≤ w.heap.size)
    (h : ∀ v' w', Bl Ty.int e base w'.heap.size w' v' (ys ++ xs) → w.grownBy w' v.ownBlock → (v'.ownBlock = v.ownBlock ∨ v'.ownBlock = some w.heap.size) → wpList P ops Q rest (a.put o.dst v') w') : wpList P ops Q (o :: rest) a w := by
  obtain ⟨L, fps, g1, g2, g3, g4, g5, g6⟩ := hB
  obtain ⟨ad', cap', hu, hl, hc, hcell⟩ := ints_ex hr
  obtain ⟨b, o', rfl, hb, hce⟩ := hcell h0
  obtain rfl : u = .slice (some ⟨b, o', none⟩) xs.length cap' := by simpa using hu
  obtain ⟨i, z, ht, hi, hz, hsz, hbt', hzs, hp⟩ := id hT
  have hnews : ∀ (j : Nat) (u : Value), (xs.map (Value.int .i64))[j]? = some u → w.cell? ((⟨b, o', none⟩ : Addr).add j) = some u := by
    intro j u hj
    rw [List.getElem?_map] at hj
    by_cases hjl : j < xs.length
    · rw [List.getElem?_eq_getElem hjl] at hj
      simp only [Option.map_some, Option.some.injEq] at hj
      subst hj
      have := (hce j hjl).2
      by_cases hj0 : j = 0
      · subst hj0
        simpa [Addr.add] using this
      · simpa [Addr.add, hj0] using this
    · rw [List.getElem?_eq_none (by omega)] at hj
      simp at hj
  have hone : ∀ u ∈ xs.map (Value.int .i64), u.oneCell' = true := by
    intro u hu
    obtain ⟨n, _, rfl⟩ := List.mem_map.1 hu
    rfl
  have hnl : (xs.map (Value.int .i64)).length = xs.length * 1 := by simp
  have hlen' : (ys.length + xs.length) * bytes ≤ 140737488355328 := Nat.le_trans (Nat.mul_le_mul hlen hby) (by decide)
  have hbase : base ≤ w.heap.size := Nat.le_trans hbt htop
  have hLl : L.length = ys.length := by have := g1.1; simpa [Ty.int] using this
  refine wpList_plain hgd fun K hK => ?_
  obtain ⟨v', w', hr', h2, h3, h4⟩ := run_append_own (P := P) w base t o.type e i z 1 bytes ht hi hz hsz hbt' hzs hp v ys.length L g1 ⟨b, o', none⟩ xs.length cap' _ hnl hnews hone (by unfold maxLen; omega) hlen' hbase
  have hblk := run_push_block w base t o.type e hT v ys.length L g1 ⟨b, o', none⟩ xs.length cap' _ hnl hnews hone (by unfold maxLen; omega) hlen' h0 v' w' hr'
  have hBl : Bl Ty.int e base w'.heap.size w' v' (ys ++ xs) := by
    refine ⟨L ++ xs.map (Value.int .i64), fun _ => [], by simpa [Ty.int] using h2, fun j hj => ?_, by rw [flat_nil]; exact List.nodup_nil, by rw [flat_nil]; simp, fun g hg => (h2.lt g hg).2, by rw [flat_nil]; intro b hb; cases hb⟩
    by_cases hjy : j < ys.length
    · obtain ⟨cs, ⟨rfl, hI, _⟩, hk⟩ := g2 j hjy
      refine ⟨[.int .i64 (ys ++ xs)[j]], ⟨rfl, by rw [List.getElem_append_left hjy]; exact hI, rfl⟩, fun q hq => ?_⟩
      obtain rfl : q = 0 := by simpa using hq
      have := hk 0 (by simp)
      rw [List.getElem?_append_left (by rw [hLl]; simp [Ty.int]; exact hjy)]
      simpa [List.getElem_append_left hjy] using this
    · have hj' : j - ys.length < xs.length := by rw [List.length_append] at hj; omega
      have hge : (ys ++ xs)[j] = xs[j - ys.length] := List.getElem_append_right (by omega)
      refine ⟨[.int .i64 (ys ++ xs)[j]], ⟨rfl, by rw [hge]; exact (hce _ hj').1, rfl⟩, fun q hq => ?_⟩
      obtain rfl : q = 0 := by simpa using hq
      rw [List.getElem?_append_right (by rw [hLl]; simp [Ty.int]; omega), hLl]
      simp [Ty.int, hge, hj']
  unfold Oper.wp execOp
  simp only [ho, resolve, invoke, builtin, Sem.run_bind, Sem.run_pure, Result.andThen_ok, List.map_toArray, List.map_cons, List.map_nil, hs, hx, hr']
  exact hK _ _ (h v' w' hBl h3 hblk)
set_option maxHeartbeats 800000 in
theorem l00Own_any (w : World) {v : Value} {xs : List Int} (h : intsT.Rd w [v] xs) (hlen : xs.length ≤ 1000000) :
    Calls Tryz.prog 119 #[v] w fun e w' => ∃ u, e = .returned u ∧ Bl Ty.int 2 w.heap.size w'.heap.size w' u xs ∧ Below w.heap.size w w' := by
  have hx := h
  obtain ⟨ad, cap, rfl⟩ := rd_slice h
  have HX := Lib.hid hx
  rcases Nat.eq_zero_or_pos xs.length with h0 | h0
  · obtain rfl := List.eq_nil_of_length_eq_zero h0
    clear h hx h0 HX
    cases ad
    all_goals
      go_enter Tryz.func119, Tryz.ntmps119
      go_wp2_with fail
      go_ret
      exact ⟨_, rfl, by simpa using Bl.lit0 (E := Ty.int) (e := 2) (w := w) (Nat.le_refl _), bA⟩
  · clear h hx
    have HB := Lib.hid (Bl.lit0 (E := Ty.int) (e := 2) (base := w.heap.size) (w := w) (Nat.le_refl _))
    go_enter Tryz.func119, Tryz.ntmps119
    go_wp2_with (refine wpList_appI _ rfl _ _ 26 2 rfl elInt rfl HB.out rfl (HX.out.below bA) h0 (by simp; omega) (by decide) (by omega) (by simp) ?_; intro v1 w1 hB1 hg1 _)
    have HB1 := Lib.hid hB1
    have hb1 : Below w.heap.size w w1 := (bA (w := w)).grown hg1 (by simp) (fun k hk => HB.out.own hk)
    clear hB1
    go_wp2_with fail
    go_ret
    exact ⟨_, rfl, HB1.out, hb1⟩
noncomputable def limV (f : Int × Int × List (Int × List Int)) : Int × Int × List (Int × List Int) := match tb (f.2.1 ≤ 8 ∧ f.2.2.length ≤ 16) with
  | true => f
  | false => frm0
noncomputable def limC (f : Int × Int × List (Int × List Int)) : Int := match tb (f.2.1 ≤ 8 ∧ f.2.2.length ≤ 16) with
  | true => 0
  | false => 3
theorem lim_yes {f : Int × Int × List (Int × List Int)} (h : f.2.1 ≤ 8 ∧ f.2.2.length ≤ 16) : limV f = f ∧ limC f = 0 := by simp only [limV, limC, tb_true h]; exact ⟨trivial, trivial⟩
theorem lim_no {f : Int × Int × List (Int × List Int)} (h : ¬ (f.2.1 ≤ 8 ∧ f.2.2.length ≤ 16)) : limV f = frm0 ∧ limC f = 3 := by simp only [limV, limC, tb_false h]; exact ⟨trivial, trivial⟩
set_option maxHeartbeats 1600000 in
set_option maxRecDepth 100000 in
theorem limited_any (w : World) {base : Nat} {cs : Array Value} {f : Int × Int × List (Int × List Int)} (h : frmT.Fr base w cs.toList f) (_hb : base ≤ w.heap.size) :
    Calls Tryz.prog 90 #[.agg cs] w fun e w' => ∃ cs' : List Value, e = .returned (.tuple #[.agg cs'.toArray, .int .i64 (limC f)]) ∧ frmT.Fr base w' cs' (limV f) ∧ Below w.heap.size w w' := by
  have hf := h
  obtain ⟨u, hv, hI, hI2, hx⟩ := trip_ex h.rd
  obtain rfl := agg_of hv
  obtain ⟨_, _, -, -, hle2, -⟩ := Ty.slice_ex hx
  obtain ⟨ad, cap, rfl⟩ := rd_slice hx
  have HF := Lib.hid hf
  clear h hv hf hx
  by_cases hl : f.2.1 ≤ 8 ∧ f.2.2.length ≤ 16
  · have HR := Lib.hid (lim_yes hl)
    obtain ⟨hl1, hl2⟩ := hl
    go_enter Tryz.func90, Tryz.ntmps90
    go_wp2_with fail
    refine bodyPost_ret (v := .tuple #[.agg #[.int .i64 f.1, .int .i64 f.2.1, .slice ad f.2.2.length cap], .int .i64 0]) (by simp [results, Tryz.results90, go_sem]) rfl ⟨[.int .i64 f.1, .int .i64 f.2.1, .slice ad f.2.2.length cap], by rw [HR.out.2], ?_, (by repeat (first | exact Below.refl _ _ | exact bA | assumption | refine Below.setCell ?_ (by first | omega | (simp; try omega)) _ | refine Below.alloc ?_ (by first | omega | (simp; try omega)) _ | refine Below.drew ?_ | refine bDN ?_ | refine bthen ?_ (by assumption)))⟩
    rw [HR.out.1]
    exact HF.out.below (by repeat (first | exact Below.refl _ _ | exact bA | assumption | refine Below.setCell ?_ (by first | omega | (simp; try omega)) _ | refine Below.alloc ?_ (by first | omega | (simp; try omega)) _ | refine Below.drew ?_ | refine bDN ?_ | refine bthen ?_ (by assumption)))
  · have HR := Lib.hid (lim_no hl)
    rcases ilt 8 f.2.1 with h8 | h8
    · clear hl
      go_enter Tryz.func90, Tryz.ntmps90
      go_wp2_with fail
      refine bodyPost_ret (v := .tuple #[.agg #[.int .i64 0, .int .i64 0, .slice none 0 0], .int .i64 3]) (by simp [results, Tryz.results90, go_sem]) rfl ⟨[.int .i64 0, .int .i64 0, .slice none 0 0], by rw [HR.out.2], by rw [HR.out.1]; exact fr_frm0, (by repeat (first | exact Below.refl _ _ | exact bA | assumption | refine Below.setCell ?_ (by first | omega | (simp; try omega)) _ | refine Below.alloc ?_ (by first | omega | (simp; try omega)) _ | refine Below.drew ?_ | refine bDN ?_ | refine bthen ?_ (by assumption)))⟩
    · have hl2 : 16 < f.2.2.length := by omega
      clear hl
      go_enter Tryz.func90, Tryz.ntmps90
      go_wp2_with fail
      refine bodyPost_ret (v := .tuple #[.agg #[.int .i64 0, .int .i64 0, .slice none 0 0], .int .i64 3]) (by simp [results, Tryz.results90, go_sem]) rfl ⟨[.int .i64 0, .int .i64 0, .slice none 0 0], by rw [HR.out.2], by rw [HR.out.1]; exact fr_frm0, (by repeat (first | exact Below.refl _ _ | exact bA | assumption | refine Below.setCell ?_ (by first | omega | (simp; try omega)) _ | refine Below.alloc ?_ (by first | omega | (simp; try omega)) _ | refine Below.drew ?_ | refine bDN ?_ | refine bthen ?_ (by assumption)))⟩
end Go.Proofs.YthjafhjghjbdmaaGreat
namespace Go.Proofs.YthjafhjghjbdmaaGreat
open Go.RowKit Go.Sort
theorem rel_len_le {s : Int} {r : Int × List (List Int)} (hr : relOk s r) : (r.2.length : Int) ≤ s ^ r.1.toNat ∧ s ^ r.1.toNat ≤ 256 := by
  have hs := hr.1
  have hm := hr.2.1
  unfold sizeOk at hs hm
  have hp : 0 ≤ s ^ r.1.toNat := pow_nn (by omega) _
  constructor
  · have hN : ((r.2.map fun x => (idxL s 0 x).toNat)).Nodup := by
      rw [List.Nodup, List.pairwise_map]
      refine List.Pairwise.imp_of_mem ?_ (sortedL_nodup (relOk_sorted hr))
      intro a b ha hb hab e
      obtain ⟨i, hi, rfl⟩ := List.mem_iff_getElem.1 ha
      obtain ⟨j, hj, rfl⟩ := List.mem_iff_getElem.1 hb
      obtain ⟨a1, a2⟩ := (hr.2.2 i hi).1
      obtain ⟨b1, b2⟩ := (hr.2.2 j hj).1
      have ha3 := idx_lt (m := r.1.toNat) hs.1 (by omega) a2
      have hb3 := idx_lt (m := r.1.toNat) hs.1 (by omega) b2
      exact hab (idxL_inj hs.1 r.1.toNat (by omega) (by omega) a2 b2 (by omega))
    have := nodup_lt_len (s ^ r.1.toNat).toNat _ hN fun x hx => by
      obtain ⟨y, hy, rfl⟩ := List.mem_map.1 hx
      obtain ⟨i, hi, rfl⟩ := List.mem_iff_getElem.1 hy
      obtain ⟨a1, a2⟩ := (hr.2.2 i hi).1
      have ha3 := idx_lt (m := r.1.toNat) hs.1 (by omega) a2
      omega
    rw [List.length_map] at this
    omega
  · refine Int.le_trans (pow_mono' (by omega) (show s ≤ 4 by omega) r.1.toNat) ?_
    rcases (show r.1.toNat = 1 ∨ r.1.toNat = 2 ∨ r.1.toNat = 3 ∨ r.1.toNat = 4 by omega) with e | e | e | e <;> rw [e] <;> decide
/-- as far as k all are kept -/
def keptTo (s : Int) (f : Int × List Int) (r : Int × List (List Int)) (k : Nat) : Prop := ∀ i : Nat, i < k → makes s f r i ∈ r.2
theorem keptTo_zero {s : Int} {f : Int × List Int} {r : Int × List (List Int)} : keptTo s f r 0 := fun _ h => absurd h (Nat.not_lt_zero _)
theorem keptTo_succ {s : Int} {f : Int × List Int} {r : Int × List (List Int)} {k : Nat} (h : keptTo s f r k) (h' : makes s f r k ∈ r.2) : keptTo s f r (k + 1) := fun i hi => by
  by_cases e : i = k
  · subst e; exact h'
  · exact h i (by omega)
theorem keepsP_of {s : Int} {f : Int × List Int} {r : Int × List (List Int)} {M : Nat} (hM : (r.2.length : Int) ^ f.1.toNat = M) (h : keptTo s f r M) : keepsP s f r := fun i hi => h i (by rw [hM] at hi; omega)
theorem keepsP_not {s : Int} {f : Int × List Int} {r : Int × List (List Int)} {M k : Nat} (hM : (r.2.length : Int) ^ f.1.toNat = M) (hk : k < M) (h : ¬ makes s f r k ∈ r.2) : ¬ keepsP s f r := fun hh => h (hh k (by rw [hM]; omega))
/-- the slices that stand in a row read as the first tuples -/
def picked (w : World) (vs : List Value) (ts : List (List Int)) : Prop := vs.length ≤ ts.length ∧ ∀ i (h : i < vs.length) (h' : i < ts.length), intsT.Rd w [vs[i]] ts[i]
theorem picked_nil {w : World} {ts : List (List Int)} : picked w [] ts := ⟨Nat.zero_le _, fun i h => by simp at h⟩
theorem picked.below {w w' : World} {vs : List Value} {ts : List (List Int)} (h : picked w vs ts) (hb : Below w.heap.size w w') : picked w' vs ts := ⟨h.1, fun i h1 h2 => (h.2 i h1 h2).below hb⟩
theorem picked_snoc {w : World} {vs : List Value} {ts : List (List Int)} {u : Value} (h : picked w vs ts) (hl : vs.length < ts.length) (hu : intsT.Rd w [u] ts[vs.length]) : picked w (vs ++ [u]) ts := by
  refine ⟨by simp; omega, fun i h1 h2 => ?_⟩
  by_cases e : i = vs.length
  · subst e; simpa using hu
  · have hi : i < vs.length := by simp at h1; omega
    rw [List.getElem_append_left hi]
    exact h.2 i hi h2
theorem picks_get {ts : List (List Int)} {ar : Nat} {i : Int} {j dn : Nat} (hj : j < (digL ts.length i ar).length) (hd : (digL ts.length i ar)[j] = (dn : Int)) (hdn : dn < ts.length) (h : j < (picks ts ar i).length) : (picks ts ar i)[j] = ts[dn] := by
  simp only [picks, List.getElem_map, hd, Int.toNat_natCast, List.getD_eq_getElem?_getD, List.getElem?_eq_getElem hdn, Option.getD_some]
theorem mem_len_pos {α : Type} {xs : List α} {k : Nat} (h : k < xs.length) : 0 < xs.length := by omega
/-- the first relation that is broken, or -1 -/
noncomputable def brokenI (t : Int × List (Int × List (List Int))) (f : Int × List Int) : Int := firstI (fun r => !tb (keepsP t.1 f r)) t.2
end Go.Proofs.YthjafhjghjbdmaaGreat
namespace Go.Proofs.YthjafhjghjbdmaaGreat
theorem cellB {B b o : Nat} {w w' : World} (hb : RowKit.Below B w w') (h : b < B) : w'.cell? ⟨b, o, none⟩ = w.cell? ⟨b, o, none⟩ := hb.cell (p := ⟨b, o, none⟩) h
theorem frozenB {B b o : Nat} {w w' : World} (hb : RowKit.Below B w w') (h : b < B) : w'.frozen? ⟨b, o, none⟩ = w.frozen? ⟨b, o, none⟩ := hb.frozen (p := ⟨b, o, none⟩) h


section
variable {P : Program} {ops : Array Oper} {Q : Exit → Act → World → Prop} {md : Region.Mode} {S : World → Prop} {tail : List Nat}

/-- one of the last writes has come up -/
def pastB (tail : List Nat) (listed : Array Bool) : Bool := tail.any fun t => listed.getD t false

def wpAnyT (P : Program) (md : Region.Mode) (ops : Array Oper) (Q : Exit → Act → World → Prop) (S : World → Prop) (tail : List Nat) : Nat → Array Bool → Act → World → Prop
  | 0, listed, a, w => Region.ready md ops listed = [] ∧ Q .normal a w
  | fuel + 1, listed, a, w =>
    (Region.ready md ops listed = [] → Q .normal a w) ∧
    ∀ i ∈ Region.ready md ops listed, wpOp P ops Q i (fun a' w' => (pastB tail (listed.setIfInBounds i true) = false → S w') ∧ wpAnyT P md ops Q S tail fuel (listed.setIfInBounds i true) a' w') a w

theorem wpAny_of_T : ∀ (fuel : Nat) (listed : Array Bool) (a : Act) (w : World), wpAnyT P md ops Q S tail fuel listed a w → wpAny P md ops Q fuel listed a w
  | 0, _, _, _, h => h
  | fuel + 1, _, _, _, h => ⟨h.1, fun i hi => wpOp_mono (fun a' w' h' => wpAny_of_T fuel _ a' w' h'.2) (h.2 i hi)⟩

/-- what can come up while number i has not: all that are in R -/
def lowB (md : Region.Mode) (ops : Array Oper) (i : Nat) (listed R : Array Bool) (tail : List Nat) : Bool :=
  ((List.range ops.size).all fun k => k == i || R.getD k false || match ops[k]? with
    | some o => o.after.any fun e => Region.binds md e && !R.getD e.on false
    | none => true) && ((List.range ops.size).all fun k => !listed.getD k false || R.getD k false) && tail.all fun t => !R.getD t false && decide (t < ops.size) && t != i
/-- these -/
def grow1 (md : Region.Mode) (ops : Array Oper) (i : Nat) (R : Array Bool) : Array Bool :=
  (Array.range ops.size).map fun k => R.getD k false || (k != i && match ops[k]? with
    | some o => o.after.all fun e => !Region.binds md e || R.getD e.on false
    | none => false)
def lowSet (md : Region.Mode) (ops : Array Oper) (i : Nat) (listed : Array Bool) : Nat → Array Bool
  | 0 => listed
  | n + 1 => grow1 md ops i (lowSet md ops i listed n)
def lateB (md : Region.Mode) (ops : Array Oper) (i : Nat) (listed : Array Bool) (tail : List Nat) : Bool := lowB md ops i listed (lowSet md ops i listed ops.size) tail

structure Low (md : Region.Mode) (ops : Array Oper) (i : Nat) (R : Array Bool) (tail : List Nat) : Prop where
  up : ∀ (k : Nat) (o : Oper), ops[k]? = some o → k ≠ i → (∀ e ∈ o.after, Region.binds md e = true → R.getD e.on false = true) → R.getD k false = true
  out : ∀ t ∈ tail, R.getD t false = false
  ne : ∀ t ∈ tail, t ≠ i
theorem lowB_spec {i : Nat} {listed R : Array Bool} (h : lowB md ops i listed R tail = true) : Low md ops i R tail ∧ ∀ k, k < ops.size → listed.getD k false = true → R.getD k false = true := by
  unfold lowB at h
  simp only [Bool.and_eq_true, List.all_eq_true, List.mem_range] at h
  obtain ⟨⟨h1, h2⟩, h3⟩ := h
  refine ⟨⟨fun k o ho hk hd => ?_, fun t ht => by have := (h3 t ht).1.1; simpa using this, fun t ht => by have := (h3 t ht).2; simpa using this⟩, fun k hk hl => ?_⟩
  · have hks : k < ops.size := by
      rcases Nat.lt_or_ge k ops.size with h' | h'
      · exact h'
      · rw [Array.getElem?_eq_none h'] at ho; cases ho
    have := h1 k hks
    rw [ho] at this
    simp only [Bool.or_eq_true, beq_iff_eq] at this
    rcases this with (rfl | h') | h'
    · exact absurd rfl hk
    · exact h'
    · simp only [Array.any_eq_true, Bool.and_eq_true, Bool.not_eq_true'] at h'
      obtain ⟨x, hx, hb⟩ := h'
      rw [hd _ (Array.getElem_mem hx) hb.1] at hb
      cases hb.2
  · have := h2 k hk
    rw [hl] at this
    simpa using this

theorem low_step {i j : Nat} {listed R : Array Bool} (hL : Low md ops i R tail) (hsub : ∀ k, k < ops.size → listed.getD k false = true → R.getD k false = true) (hbd : ∀ (k : Nat) (o : Oper), ops[k]? = some o → ∀ e ∈ o.after, Region.binds md e = true → e.on < ops.size)
    (hj : j ∈ Region.ready md ops listed) (hji : j ≠ i) : R.getD j false = true ∧ ∀ k, k < ops.size → (listed.setIfInBounds j true).getD k false = true → R.getD k false = true := by
  obtain ⟨-, oj, hoj, hall⟩ := mem_ready.1 hj
  have hR : R.getD j false = true := hL.up j oj hoj hji fun e he hb => hsub e.on (hbd j oj hoj e he hb) (hall e he hb)
  refine ⟨hR, fun k hk hl => ?_⟩
  by_cases e : j = k
  · subst e; exact hR
  · rw [getD_set_ne false e] at hl; exact hsub k hk hl

theorem past_false {R listed : Array Bool} {i : Nat} (hL : Low md ops i R tail) (ht : ∀ t ∈ tail, t < ops.size) (hsub : ∀ k, k < ops.size → listed.getD k false = true → R.getD k false = true) : pastB tail listed = false := by
  unfold pastB
  rw [List.any_eq_false]
  intro t htl hh
  have := hsub t (ht t htl) hh
  rw [hL.out t htl] at this
  cases this

theorem wpAnyT_first {i : Nat} {oi : Oper} {v : Value} (hi : ops[i]? = some oi) (hsel : ∀ (j : Nat) (o : Oper) cs b, ops[j]? = some o → o.op ≠ .select cs b)
    (hQ : ∀ c a w, Q (.panic c) (a.put oi.dst v) w → Q (.panic c) a w) {R : Array Bool} (hL : Low md ops i R tail) (ht : ∀ t ∈ tail, t < ops.size) (hbd : ∀ (k : Nat) (o : Oper), ops[k]? = some o → ∀ e ∈ o.after, Region.binds md e = true → e.on < ops.size) :
    ∀ (fuel : Nat) (listed : Array Bool) (a : Act) (w : World),
      (∀ j oj, ops[j]? = some oj → j ≠ i → listed.getD j true = false → (∀ e ∈ oj.after, Region.binds md e = true → e.on ≠ i) → oi.apart ops oj = true) →
      i ∈ Region.ready md ops listed → YieldsIf P ops S oi v a → S w → (∀ k, k < ops.size → listed.getD k false = true → R.getD k false = true) →
      wpAnyT P md ops Q S tail fuel (listed.setIfInBounds i true) (a.put oi.dst v) w → wpAnyT P md ops Q S tail (fuel + 1) listed a w := by
  intro fuel
  induction fuel with
  | zero =>
    intro listed a w _ hr hy hS hsub H
    refine ⟨fun h => (by rw [h] at hr; cases hr), fun j hj => ?_⟩
    by_cases hji : j = i
    · subst hji; exact hy.wpOp hi hS ⟨fun _ => hS, H⟩
    · have := ready_mono hj hji
      rw [H.1] at this
      cases this
  | succ fuel ih =>
    intro listed a w hfree hr hy hS hsub H
    refine ⟨fun h => (by rw [h] at hr; cases hr), fun j hj => ?_⟩
    by_cases hji : j = i
    · subst hji; exact hy.wpOp hi hS ⟨fun _ => hS, H⟩
    · have h1 := H.2 j (ready_mono hj hji)
      obtain ⟨hjun, oj, hoj, hall⟩ := mem_ready.1 hj
      have hnot : ∀ e ∈ oj.after, Region.binds md e = true → e.on ≠ i := fun e he hb heq => by
        have h1 := hall e he hb
        have h0 := (mem_ready.1 hr).1
        rw [heq] at h1
        rcases Nat.lt_or_ge i listed.size with h' | h'
        · simp [h'] at h0 h1; rw [h0] at h1; cases h1
        · simp [Array.getElem?_eq_none h'] at h1
      have h2 := wpOp_putIf hoj (hfree j oj hoj hji hjun hnot) (fun cs b => hsel i oi cs b hi) (fun cs b => hsel j oj cs b hoj) hQ hy h1
      have hfree' : ∀ k ok, ops[k]? = some ok → k ≠ i → (listed.setIfInBounds j true).getD k true = false →
          (∀ e ∈ ok.after, Region.binds md e = true → e.on ≠ i) → oi.apart ops ok = true := fun k ok hk hki hun hno => by
        refine hfree k ok hk hki ?_ hno
        by_cases hjk : j = k
        · subst hjk; exact hjun
        · rw [getD_set_ne true hjk] at hun; exact hun
      obtain ⟨-, hsub'⟩ := low_step hL hsub hbd hj hji
      have hp : pastB tail ((listed.setIfInBounds i true).setIfInBounds j true) = false := by
        have h0 := past_false hL ht hsub'
        rw [Array.setIfInBounds_comm _ _ (Ne.symm hji)]
        unfold pastB at h0 ⊢
        rw [List.any_eq_false] at h0 ⊢
        intro t htl hh
        rw [getD_set_ne false (Ne.symm (hL.ne t htl))] at hh
        exact h0 t htl hh
      refine wpOp_mono (fun a' w' h3 => ⟨fun _ => h3.2.1 hp, ih (listed.setIfInBounds j true) a' w' hfree' (ready_mono hr (Ne.symm hji)) h3.1 (h3.2.1 hp) hsub' ?_⟩) h2
      rw [Array.setIfInBounds_comm _ _ hji]
      exact h3.2.2

/-- every edge leads to an operation -/
def edgesB (md : Region.Mode) (ops : Array Oper) : Bool := ops.all fun o => o.after.all fun e => !Region.binds md e || decide (e.on < ops.size)
theorem edgesB_spec (h : edgesB md ops = true) : ∀ (k : Nat) (o : Oper), ops[k]? = some o → ∀ e ∈ o.after, Region.binds md e = true → e.on < ops.size := by
  intro k o ho e he hb
  have h1 := Array.all_eq_true_iff_forall_mem.1 h o (Array.mem_of_getElem? ho)
  have h2 := Array.all_eq_true_iff_forall_mem.1 h1 e he
  simpa [hb] using h2

/-- take number i first -/
theorem wpAnyT_take {i : Nat} {oi : Oper} {v : Value} {fuel : Nat} {listed : Array Bool} {a : Act} {w : World} (hi : ops[i]? = some oi)
    (hs : (Region.noSelect ops && edgesB md ops && Region.free md ops listed i && (Region.ready md ops listed).contains i && lateB md ops i listed tail) = true)
    (hQ : ∀ c a w, Q (.panic c) (a.put oi.dst v) w → Q (.panic c) a w) (hy : YieldsIf P ops S oi v a) (hS : S w)
    (h : wpAnyT P md ops Q S tail fuel (listed.setIfInBounds i true) (a.put oi.dst v) w) : wpAnyT P md ops Q S tail (fuel + 1) listed a w := by
  simp only [Bool.and_eq_true] at hs
  obtain ⟨⟨⟨⟨s1, s2⟩, s3⟩, s4⟩, s5⟩ := hs
  obtain ⟨hL, hsub⟩ := lowB_spec s5
  have ht : ∀ t ∈ tail, t < ops.size := fun t ht => by
    unfold lateB lowB at s5
    simp only [Bool.and_eq_true, List.all_eq_true] at s5
    simpa using (s5.2 t ht).1.2
  exact wpAnyT_first hi (Region.noSelect_spec s1) hQ hL ht (edgesB_spec s2) fuel listed a w (Region.free_spec hi s3) (by simpa using s4) hy hS hsub h

/-- what yields in whatever world: taken first, also where the condition holds no more -/
theorem wpAnyT_free {i : Nat} {oi : Oper} {v : Value} (hi : ops[i]? = some oi) (hsel : ∀ (j : Nat) (o : Oper) cs b, ops[j]? = some o → o.op ≠ .select cs b)
    (hQ : ∀ c a w, Q (.panic c) (a.put oi.dst v) w → Q (.panic c) a w) (hti : i ∉ tail) :
    ∀ (fuel : Nat) (listed : Array Bool) (a : Act) (w : World),
      (∀ j oj, ops[j]? = some oj → j ≠ i → listed.getD j true = false → (∀ e ∈ oj.after, Region.binds md e = true → e.on ≠ i) → oi.apart ops oj = true) →
      i ∈ Region.ready md ops listed → YieldsIf P ops (fun _ => True) oi v a → (pastB tail listed = false → S w) →
      wpAnyT P md ops Q S tail fuel (listed.setIfInBounds i true) (a.put oi.dst v) w → wpAnyT P md ops Q S tail (fuel + 1) listed a w := by
  have hpi : ∀ L : Array Bool, pastB tail (L.setIfInBounds i true) = pastB tail L := fun L => by
    unfold pastB
    rw [Bool.eq_iff_iff]
    simp only [List.any_eq_true]
    constructor
    · rintro ⟨t, h1, h2⟩; exact ⟨t, h1, by rwa [getD_set_ne false (show i ≠ t from fun e => hti (by rw [e]; exact h1))] at h2⟩
    · rintro ⟨t, h1, h2⟩; exact ⟨t, h1, by rwa [getD_set_ne false (show i ≠ t from fun e => hti (by rw [e]; exact h1))]⟩
  intro fuel
  induction fuel with
  | zero =>
    intro listed a w _ hr hy hS H
    refine ⟨fun h => (by rw [h] at hr; cases hr), fun j hj => ?_⟩
    by_cases hji : j = i
    · subst hji; exact hy.wpOp hi trivial ⟨fun hp => hS (by rw [← hpi]; exact hp), H⟩
    · have := ready_mono hj hji
      rw [H.1] at this
      cases this
  | succ fuel ih =>
    intro listed a w hfree hr hy hS H
    refine ⟨fun h => (by rw [h] at hr; cases hr), fun j hj => ?_⟩
    by_cases hji : j = i
    · subst hji; exact hy.wpOp hi trivial ⟨fun hp => hS (by rw [← hpi]; exact hp), H⟩
    · have h1 := H.2 j (ready_mono hj hji)
      obtain ⟨hjun, oj, hoj, hall⟩ := mem_ready.1 hj
      have hnot : ∀ e ∈ oj.after, Region.binds md e = true → e.on ≠ i := fun e he hb heq => by
        have h1 := hall e he hb
        have h0 := (mem_ready.1 hr).1
        rw [heq] at h1
        rcases Nat.lt_or_ge i listed.size with h' | h'
        · simp [h'] at h0 h1; rw [h0] at h1; cases h1
        · simp [Array.getElem?_eq_none h'] at h1
      have h2 := wpOp_putIf hoj (hfree j oj hoj hji hjun hnot) (fun cs b => hsel i oi cs b hi) (fun cs b => hsel j oj cs b hoj) hQ hy h1
      have hfree' : ∀ k ok, ops[k]? = some ok → k ≠ i → (listed.setIfInBounds j true).getD k true = false →
          (∀ e ∈ ok.after, Region.binds md e = true → e.on ≠ i) → oi.apart ops ok = true := fun k ok hk hki hun hno => by
        refine hfree k ok hk hki ?_ hno
        by_cases hjk : j = k
        · subst hjk; exact hjun
        · rw [getD_set_ne true hjk] at hun; exact hun
      refine wpOp_mono (fun a' w' h3 => ⟨fun hp => h3.2.1 (by rw [Array.setIfInBounds_comm _ _ (Ne.symm hji), hpi]; exact hp), ih (listed.setIfInBounds j true) a' w' hfree' (ready_mono hr (Ne.symm hji)) h3.1 (fun hp => h3.2.1 (by rw [Array.setIfInBounds_comm _ _ (Ne.symm hji), hpi]; exact hp)) ?_⟩) h2
      rw [Array.setIfInBounds_comm _ _ hji]
      exact h3.2.2
theorem wpAnyT_any {i : Nat} {oi : Oper} {v : Value} {fuel : Nat} {listed : Array Bool} {a : Act} {w : World} (hi : ops[i]? = some oi)
    (hs : (Region.noSelect ops && Region.free md ops listed i && (Region.ready md ops listed).contains i && !tail.contains i) = true)
    (hQ : ∀ c a w, Q (.panic c) (a.put oi.dst v) w → Q (.panic c) a w) (hy : YieldsIf P ops (fun _ => True) oi v a) (hS : pastB tail listed = false → S w)
    (h : wpAnyT P md ops Q S tail fuel (listed.setIfInBounds i true) (a.put oi.dst v) w) : wpAnyT P md ops Q S tail (fuel + 1) listed a w := by
  simp only [Bool.and_eq_true] at hs
  obtain ⟨⟨⟨s1, s2⟩, s3⟩, s4⟩ := hs
  exact wpAnyT_free hi (Region.noSelect_spec s1) hQ (by simpa using s4) fuel listed a w (Region.free_spec hi s2) (by simpa using s3) hy hS h

/-- one alone may come up: not one of the last -/
theorem wpAnyT_one {i : Nat} {o : Oper} {fuel : Nat} {listed : Array Bool} {a : Act} {w : World} (ho : ops[i]? = some o) (hr : Region.ready md ops listed = [i])
    (h : ∀ K' : Act → World → Prop, Shut (∀ a w, S w → (S w → wpAnyT P md ops Q S tail fuel (listed.setIfInBounds i true) a w) → K' a w) → if Region.wanted o (yielded ops a.tmps) = true then Oper.wp P o a w K' Q else K' (a.put o.dst undef) w) :
    wpAnyT P md ops Q S tail (fuel + 1) listed a w := by
  refine ⟨fun h0 => (by rw [h0] at hr; cases hr), fun j hj => ?_⟩
  rw [hr] at hj
  obtain rfl : j = i := by simpa using hj
  exact wpOp_step ho (fun K' hK => h K' (fun a w hS hW => hK a w ⟨fun _ => hS, hW hS⟩))
/-- one alone may come up: one of the last, or behind them -/
theorem wpAnyT_last {i : Nat} {o : Oper} {fuel : Nat} {listed : Array Bool} {a : Act} {w : World} (ho : ops[i]? = some o) (hr : Region.ready md ops listed = [i]) (hp : pastB tail (listed.setIfInBounds i true) = true)
    (h : ∀ K' : Act → World → Prop, Shut (∀ a w, wpAnyT P md ops Q S tail fuel (listed.setIfInBounds i true) a w → K' a w) → if Region.wanted o (yielded ops a.tmps) = true then Oper.wp P o a w K' Q else K' (a.put o.dst undef) w) :
    wpAnyT P md ops Q S tail (fuel + 1) listed a w := by
  refine ⟨fun h0 => (by rw [h0] at hr; cases hr), fun j hj => ?_⟩
  rw [hr] at hj
  obtain rfl : j = i := by simpa using hj
  exact wpOp_step ho (fun K' hK => h K' (fun a w hW => hK a w ⟨fun h => (by rw [hp] at h; cases h), hW⟩))
theorem wpAnyT_done {listed : Array Bool} {a : Act} {w : World} (hr : Region.ready md ops listed = []) (h : Q .normal a w) :
    ∀ fuel, wpAnyT P md ops Q S tail fuel listed a w
  | 0 => ⟨hr, h⟩
  | _ + 1 => ⟨fun _ => h, by rw [hr]; simp⟩
theorem wp_region_T (S : World → Prop) (tail : List Nat) {id : Nat} {a : Act} {w : World} (hm : P.follows .mixedOrders = true) (hS : S w.drew)
    (h : S w.drew → wpAnyT P .any ops Q S tail ops.size (Array.replicate ops.size false) a w.drew) : (Code.region id ops true).wp P Q a w :=
  wp_region_any hm (wpAny_of_T _ _ _ _ (h hS))
end
end Go.Proofs.YthjafhjghjbdmaaGreat
namespace Go.Proofs.YthjafhjghjbdmaaGreat
open Go.RowKit Go.Sort
set_option maxHeartbeats 800000 in
theorem Clone_any (w : World) {v : Value} {xs : List Int} (h : intsT.Rd w [v] xs) (hlen : xs.length ≤ 1000000) :
    Calls Tryz.prog 105 #[v] w (RetS intsT w xs) := by
  have hx := h
  obtain ⟨ad, cap, rfl⟩ := rd_slice h
  have HX := Lib.hid hx
  have hnil := fun w o m c => Lib.run_eql_slice_nil (P := Tryz.prog) w 26 2 o m c 0 0 Tryz.underlying26
  rcases Nat.eq_zero_or_pos xs.length with h0 | h0
  · obtain rfl := List.eq_nil_of_length_eq_zero h0
    clear h hx h0 HX
    cases ad
    · go_enter Tryz.func105, Tryz.ntmps105
      go_wp2_with fail
      go_ret
      exact ⟨_, rfl, fr_nil, Below.refl _ _⟩
    · go_enter Tryz.func105, Tryz.ntmps105
      go_wp2_with fail
      go_ret
      exact ⟨_, rfl, fr_nil, bA⟩
  · obtain ⟨_, _, e1, -, -, hc⟩ := ints_ex h
    simp only [List.cons.injEq, Value.slice.injEq, and_true, true_and] at e1
    obtain ⟨rfl, rfl⟩ := e1
    obtain ⟨b, o, rfl, -⟩ := hc h0
    clear h hx hc
    have HB := Lib.hid (Bl.lit0 (E := Ty.int) (e := 2) (base := w.heap.size) (w := w) (Nat.le_refl _))
    go_enter Tryz.func105, Tryz.ntmps105
    go_wp2_with (refine wpList_appI _ rfl _ _ 26 2 rfl elInt rfl HB.out rfl (HX.out.below bA) h0 (by simp; omega) (by decide) (by omega) (by simp) ?_; intro v1 w1 hB1 hg1 _)
    have HB1 := Lib.hid (hB1.fr (by unfold capMax; simp; omega))
    have hb1 : Below w.heap.size w w1 := (bA (w := w)).grown hg1 (by simp) (fun k hk => HB.out.own hk)
    clear hB1
    go_wp2_with fail
    go_ret
    exact ⟨_, rfl, HB1.out, hb1⟩
theorem news2' {w : World} {u u' : Value} {T : TypeId} {B : Nat} (hB : B = w.heap.size) : ∀ j x, [u, u'][j]? = some x → (w.alloc (.cells #[u, u'] T)).cell? ((⟨B, 0, none⟩ : Addr).add j) = some x := by subst hB; exact news2
theorem news1' {w : World} {u : Value} {T : TypeId} {B : Nat} (hB : B = w.heap.size) : ∀ j x, [u][j]? = some x → (w.alloc (.cells #[u] T)).cell? ((⟨B, 0, none⟩ : Addr).add j) = some x := by subst hB; exact news1
theorem set2_cells {w : World} {b : Nat} {x y u v : Value} (h0 : w.cell? ⟨b, 0, none⟩ = some u) (h1 : w.cell? ⟨b, 1, none⟩ = some v) :
    ((w.setCell ⟨b, 0, none⟩ x).setCell ⟨b, 1, none⟩ y).cell? ⟨b, 0, none⟩ = some x ∧ ((w.setCell ⟨b, 0, none⟩ x).setCell ⟨b, 1, none⟩ y).cell? ⟨b, 1, none⟩ = some y :=
  ⟨(World.cell?_setCell_other _ _ _ _ (by simp)).trans (World.cell?_setCell_same _ _ _ h0), World.cell?_setCell_same _ _ _ ((World.cell?_setCell_other _ _ _ _ (by simp)).trans h1)⟩
theorem fr_set2 {α : Type} {E : Ty α} {base : Nat} {w : World} {cs : List Value} {x : α} {b : Nat} {u v : Value} (h : E.Fr base w cs x) (ha : b < base) : E.Fr base ((w.setCell ⟨b, 0, none⟩ u).setCell ⟨b, 1, none⟩ v) cs x := (h.set (a := ⟨b, 0, none⟩) ha).set (a := ⟨b, 1, none⟩) ha
end Go.Proofs.YthjafhjghjbdmaaGreat
namespace Go.Proofs.YthjafhjghjbdmaaGreat
open Go.RowKit Go.Sort
def topI (xs : List Int) : Int := xs.foldl max 0
theorem topI_take {xs : List Int} {k : Nat} (h : k < xs.length) : topI (xs.take (k + 1)) = max (topI (xs.take k)) xs[k] := by
  unfold topI
  rw [List.take_succ_eq_append_getElem h, List.foldl_append]
  rfl
theorem foldl_max_ge : ∀ {xs : List Int} {a : Int}, a ≤ xs.foldl max a ∧ ∀ x ∈ xs, x ≤ xs.foldl max a
  | [], a => ⟨Int.le_refl _, fun x hx => by cases hx⟩
  | y :: r, a => by
    obtain ⟨h1, h2⟩ := foldl_max_ge (xs := r) (a := max a y)
    rw [List.foldl_cons]
    refine ⟨by omega, fun x hx => ?_⟩
    rcases List.mem_cons.1 hx with rfl | hx
    · omega
    · exact h2 x hx
theorem topI_ge {xs : List Int} {x : Int} (h : x ∈ xs) : x ≤ topI xs := foldl_max_ge.2 x h
theorem topI_nn {xs : List Int} : 0 ≤ topI xs := foldl_max_ge.1
theorem foldl_max_le {c : Int} : ∀ {xs : List Int} {a : Int}, a ≤ c → (∀ x ∈ xs, x ≤ c) → xs.foldl max a ≤ c
  | [], _, h, _ => h
  | y :: r, a, h, h2 => by
    rw [List.foldl_cons]
    exact foldl_max_le (by have := h2 y (List.mem_cons_self ..); omega) fun x hx => h2 x (List.mem_cons_of_mem _ hx)
theorem topI_le {xs : List Int} {c : Int} (h0 : 0 ≤ c) (h : ∀ x ∈ xs, x ≤ c) : topI xs ≤ c := foldl_max_le h0 h
theorem topI_one {x : Int} (h : 0 ≤ x) : topI [x] = x := by simp only [topI, List.foldl_cons, List.foldl_nil]; omega
/-- does an atom hold for values? -/
noncomputable def holdsA (t : Int × List (Int × List (List Int))) (vals : List Int) (a : Int × List Int) : Bool := match (a.1 == -1) with
  | true => (atL vals a.2).getD 0 0 == (atL vals a.2).getD 1 0
  | false => tb (holdsC t vals a)
theorem holdsA_eq {t : Int × List (Int × List (List Int))} {vals : List Int} {a : Int × List Int} (h : (a.1 == -1) = true) : holdsA t vals a = ((atL vals a.2).getD 0 0 == (atL vals a.2).getD 1 0) := by simp only [holdsA, h]
theorem holdsA_rel {t : Int × List (Int × List (List Int))} {vals : List Int} {a : Int × List Int} (h : (a.1 == -1) = false) : holdsA t vals a = tb (holdsC t vals a) := by simp only [holdsA, h]
/-- an atom of a template: what it needs -/
theorem atom_len {t : Int × List (Int × List (List Int))} (hT : tplOk t) {vars : Int} {a : Int × List Int} (h : atomOk t vars a) : 1 ≤ a.2.length ∧ a.2.length ≤ 4 ∧ (a.1 = -1 → a.2.length = 2) ∧ (a.1 ≠ -1 → 0 ≤ a.1 ∧ a.1.toNat < t.2.length) := by
  obtain ⟨h1, h2, -⟩ := h
  by_cases he : a.1 = -1
  · rw [he, arOf_eq] at h2
    exact ⟨by omega, by omega, fun _ => by omega, fun h => absurd he h⟩
  · have hin : 0 ≤ a.1 ∧ a.1.toNat < t.2.length := by
      by_cases hin : inB a.1 0 ((t.2.length : Int) - 1) = true
      · have := inB_true.1 hin; omega
      · exact absurd (arOf_no he (by simpa using hin)) h1
    obtain ⟨k, hk⟩ : ∃ k : Nat, a.1 = k := ⟨a.1.toNat, by omega⟩
    have hkl : k < t.2.length := by omega
    have h3 := hT.2.2 _ (List.getElem_mem hkl)
    rw [hk, arOf_nat hkl] at h2
    have := h3.2.1
    unfold sizeOk at this
    exact ⟨by omega, by omega, fun h => absurd h he, fun _ => hin⟩
theorem con_atom {t : Int × List (Int × List (List Int))} (hT : tplOk t) {vars : Int} {c : Int × List Int} (h : conOk t vars c) : atomOk t vars c := by
  obtain ⟨h1, h2⟩ := h
  refine ⟨?_, h2⟩
  obtain ⟨k, hk⟩ : ∃ k : Nat, c.1 = k := ⟨c.1.toNat, by omega⟩
  have hkl : k < t.2.length := by omega
  have h3 := (hT.2.2 _ (List.getElem_mem hkl)).2.1
  unfold sizeOk at h3
  rw [hk, arOf_nat hkl]
  omega
theorem tplT_rd {w : World} {t : Int × List (Int × List (List Int))} {v : Value} (h : tplT.Rd w [.int .i64 t.1, v] t) {k : Nat} (hk : k < t.2.length) :
    ∃ a q cap u, v = .slice (some ⟨a, q, none⟩) t.2.length cap ∧ a < w.heap.size ∧ w.cell? ⟨a, q + k * 2, none⟩ = some (.int .i64 (t.2[k]).1) ∧ w.cell? ⟨a, q + k * 2 + 1, none⟩ = some u ∧ relT.Rd w [.int .i64 (t.2[k]).1, u] t.2[k] := by
  obtain ⟨v', hv, -, hx⟩ := pair_ex h
  obtain rfl : v = v' := by simpa using hv
  obtain ⟨ad, cap, hv2, -, -, hc⟩ := pairs_ex hx
  obtain rfl : v = _ := by simpa using hv2
  obtain ⟨a, q, rfl, ha, hce⟩ := hc (by omega)
  obtain ⟨u, hu, hI, c0, c1⟩ := hce k hk
  exact ⟨a, q, cap, u, rfl, ha, c0, c1, pair_mk hI hu⟩
set_option maxHeartbeats 1600000 in
set_option maxRecDepth 100000 in
theorem holds_any (w : World) {ct ca : Array Value} {t : Int × List (Int × List (List Int))} {a : Int × List Int} {v : Value} {vals : List Int} (ht : tplT.Rd w ct.toList t) (ha : opT.Rd w ca.toList a) (hv : intsT.Rd w [v] vals)
    (hT : tplOk t) {vars : Int} (hA : atomOk t vars a) (hin : ∀ p ∈ a.2, 0 ≤ p ∧ p < (vals.length : Int)) :
    Calls Tryz.prog 223 #[.agg ct, .agg ca, v] w fun e w' => e = .returned (.bool (holdsA t vals a)) ∧ Below w.heap.size w w' := by
  obtain ⟨h1, h4, h5, h6⟩ := atom_len hT hA
  obtain ⟨vt, hct, -, -⟩ := pair_ex ht
  obtain rfl := agg_of hct
  obtain ⟨va, hca, -, hxa⟩ := pair_ex ha
  obtain rfl := agg_of hca
  obtain ⟨xa, xn, xc, rfl⟩ := rd_sl hxa
  have HT := Lib.hid ht
  have HX := Lib.hid hxa
  have HV := Lib.hid hv
  have HIN := Lib.hid hin
  have HTO := Lib.hid hT
  clear ht ha hct hca hxa hv hin hT hA
  go_enter Tryz.func223, Tryz.ntmps223
  go_wp2_with fail
  generalize hW : World.alloc _ _ = W
  have hbW : Below w.heap.size w W := hW ▸ bAA
  have hsW : W.heap.size = w.heap.size + 2 := by rw [← hW]; simp
  have t1 : W.cell? ⟨w.heap.size, 1, none⟩ = some vt := by rw [← hW]; simp [go_sem]
  have a0 : W.cell? ⟨w.heap.size + 1, 0, none⟩ = some (.int .i64 a.1) := by rw [← hW]; simp [go_sem]
  have a1 : W.cell? ⟨w.heap.size + 1, 1, none⟩ = some (.slice xa xn xc) := by rw [← hW]; simp [go_sem]
  clear hW
  refine (chosen_any _ (HV.out.below hbW) (HX.out.below hbW) HIN.out (by omega)).mono ?_
  rintro e w1 ⟨u, rfl, hf, hb1⟩
  obtain ⟨ua, uc, rfl⟩ := fr_slice hf
  have HF := Lib.hid hf.rd
  have hz1 := hb1.size
  have hbw1 := bthen hbW hb1
  replace t1 := (cellB hb1 (by omega)).trans t1
  replace a0 := (cellB hb1 (by omega)).trans a0
  replace a1 := (cellB hb1 (by omega)).trans a1
  clear hf
  cases hq : (a.1 == -1)
  · have hne : a.1 ≠ -1 := by simpa using hq
    obtain ⟨h7, h8⟩ := h6 hne
    obtain ⟨k, hk⟩ : ∃ k : Nat, a.1 = k := ⟨a.1.toNat, by omega⟩
    have hkl : k < t.2.length := by omega
    obtain ⟨ba, bq, cap, ur, rfl, hba, c0, c1, hr⟩ := tplT_rd HT.out hkl
    have HR := Lib.hid (hr.below hbw1)
    have HSR := Lib.hid (relOk_sorted (HTO.out.2.2 _ (List.getElem_mem hkl)))
    have d0 := (hbw1.cell hba).trans c0
    have d1 := (hbw1.cell hba).trans c1
    have HE : Hid (tb (atL vals a.2 ∈ (t.2[k]).2) = holdsA t vals a) := by
      unfold Hid
      rw [holdsA_rel hq]
      unfold holdsC
      rw [hk, relAt_nat hkl]
    rw [hk] at a0 hq
    clear hr c0 c1 hk hne h5 h6
    go_wp2_with fail
    refine (has_any (cs := #[.int .i64 (t.2[k]).1, ur]) _ HR.out HF.out HSR.out).mono ?_
    rintro e w2 ⟨rfl, hb2⟩
    go_wp2_with fail
    go_ret
    exact ⟨ret_bool HE.out, bthen hbw1 hb2⟩
  · have he : a.1 = -1 := by simpa using hq
    have h7 := h5 he
    obtain ⟨_, _, e1, -, -, hce⟩ := ints_ex HF.out
    simp only [List.cons.injEq, Value.slice.injEq, and_true, true_and] at e1
    obtain ⟨rfl, rfl⟩ := e1
    have hal : (atL vals a.2).length = 2 := by rw [atL_len]; exact h7
    obtain ⟨b, o, rfl, hb, hcc⟩ := hce (by omega)
    have i0 := (hcc 0 (by omega)).2
    have i1 := (hcc 1 (by omega)).2
    rw [Nat.add_zero] at i0
    have HE : Hid (((atL vals a.2)[0]'(by omega) == (atL vals a.2)[1]'(by omega)) = holdsA t vals a) := by
      unfold Hid
      rw [holdsA_eq hq]
      simp [List.getD_eq_getElem?_getD, hal]
    clear hcc hce h5 h6 he
    rw [hal]
    go_wp2_with fail
    go_quiet (fail)
    go_wp2_with fail
    go_ret
    exact ⟨ret_bool HE.out, bthen hbw1 (Quiet.drewN _ _).below⟩
set_option maxHeartbeats 1600000 in
set_option maxRecDepth 100000 in
theorem MaxI_any (w : World) {v : Value} {xs : List Int} (h : intsT.Rd w [v] xs) (h0 : 1 ≤ xs.length) (hnn : ∀ x ∈ xs, 0 ≤ x) :
    Calls Tryz.prog 130 #[v] w fun e w' => e = .returned (.int .i64 (topI xs)) ∧ w = w' := by
  obtain ⟨ad, cap, hv, -, hcl, hcell⟩ := ints_ex h
  obtain rfl : v = _ := by simpa using hv
  obtain ⟨b, o, rfl, hb, hce⟩ := hcell (by omega)
  have HCE := Lib.hid hce
  have HN := Lib.hid hnn
  have c0 := (hce 0 (by omega)).2
  have ht1 : topI (xs.take 1) = xs[0] := by rw [topI_take (show 0 < xs.length by omega)]; have := hnn _ (List.getElem_mem (show 0 < xs.length by omega)); simp [topI]; omega
  have HT1 := Lib.hid ht1
  have h01 : 1 ≤ (xs.length : Int) := by omega
  rw [Nat.add_zero] at c0
  clear h hv hcell hce hnn ht1
  go_enter Tryz.func130, Tryz.ntmps130
  go_wp2_with fail
  go_loop [3, 4] (fun m i => ∃ k : Nat, 1 ≤ k ∧ k ≤ xs.length ∧ i = .int .i64 k ∧ m = .int .i64 (topI (xs.take k))) (fun _ i => xs.length - (intOf i).toNat)
  case atStart => exact ⟨1, Nat.le_refl _, h0, rfl, by rw [HT1.out]⟩
  case round =>
    obtain ⟨k, hk1, hk, rfl, rfl⟩ := hrel
    by_cases hkl : k < xs.length
    · have e0 := (HCE.out k hkl).2
      have HT := Lib.hid (topI_take hkl)
      go_wp2_with fail
      go_round
      case rel => exact ⟨k + 1, by omega, by omega, by go_num, by rw [HT.out]; congr 1; split <;> omega⟩
      case measure => simp [intOf]; omega
    · obtain rfl : k = xs.length := by omega
      rw [List.take_length]
      go_wp2_with fail
      go_ret
      exact ⟨rfl, rfl⟩
end Go.Proofs.YthjafhjghjbdmaaGreat
