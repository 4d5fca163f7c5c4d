/-
  Marks: what a write into all numbers of a datum's memory changes, and what the datum then reads as. No program is named here.
-/
import Derived.Test.YtepebfpgmnidnaaLoose
import Derived.Deep.RegionHeldLaw
namespace Go.Proofs.Ytepebfpgmnidnaa
open Go.RowKit

/-- all blocks but some are as before -/
structure TchF (fp : List Nat) (w w' : World) : Prop where
  os : w'.os = w.os
  tape : w'.tape = w.tape
  output : w'.output = w.output
  size : w.heap.size ≤ w'.heap.size
  block : ∀ k, k < w.heap.size → k ∉ fp → w'.heap[k]? = w.heap[k]?
theorem TchF.refl (fp : List Nat) (w : World) : TchF fp w w := ⟨rfl, rfl, rfl, Nat.le_refl _, fun _ _ _ => rfl⟩
theorem TchF.trans {fp : List Nat} {w w' w'' : World} (h : TchF fp w w') (k : TchF fp w' w'') : TchF fp w w'' :=
  ⟨k.os.trans h.os, k.tape.trans h.tape, k.output.trans h.output, Nat.le_trans h.size k.size, fun i hi hb => (k.block i (Nat.lt_of_lt_of_le hi h.size) hb).trans (h.block i hi hb)⟩
theorem TchF.mono {fp fp' : List Nat} {w w' : World} (h : TchF fp w w') (hs : ∀ k ∈ fp, k ∈ fp') : TchF fp' w w' := ⟨h.os, h.tape, h.output, h.size, fun k hk hn => h.block k hk fun hm => hn (hs k hm)⟩
theorem Below.tchF {w w' : World} (h : Below w.heap.size w w') (fp : List Nat) : TchF fp w w' := ⟨h.os, h.tape, h.output, h.size, fun k hk _ => h.block k hk⟩
theorem TchF.setCell {fp : List Nat} {b : Nat} (hb : b ∈ fp) (o : Nat) (w : World) (u : Value) : TchF fp w (w.setCell ⟨b, o, none⟩ u) :=
  ⟨rfl, rfl, rfl, by simp [World.setCell], fun k _ hk => Below.heap_setCell _ _ _ _ (fun e => hk (by rw [e]; exact hb))⟩
theorem TchF.same {fp g : List Nat} {w w' : World} (h : TchF fp w w') (hg : ∀ k ∈ g, k < w.heap.size ∧ k ∉ fp) : Same g w w' := fun k hk => h.block k (hg k hk).1 (hg k hk).2
theorem TchF.cell {fp : List Nat} {w w' : World} (h : TchF fp w w') {b o : Nat} (hb : b < w.heap.size) (hn : b ∉ fp) : w'.cell? ⟨b, o, none⟩ = w.cell? ⟨b, o, none⟩ := World.cell?_of_block (w := w) (h.block b hb hn)
theorem TchF.frozen {fp : List Nat} {w w' : World} (h : TchF fp w w') {b o : Nat} (hb : b < w.heap.size) (hn : b ∉ fp) : w'.frozen? ⟨b, o, none⟩ = w.frozen? ⟨b, o, none⟩ := World.frozen?_of_block (w := w) (h.block b hb hn)

/-- the marks: f says how an element is marked from a number on, c how many marks it takes -/
def mkL {α : Type} (f : Int → α → α) (c : α → Int) : Int → List α → List α
  | _, [] => []
  | k, x :: r => f k x :: mkL f c (k + c x) r
theorem mkL_len {α : Type} {f : Int → α → α} {c : α → Int} : ∀ {xs : List α} {k : Int}, (mkL f c k xs).length = xs.length
  | [], _ => rfl
  | x :: r, k => by simp [mkL, mkL_len (xs := r)]
theorem mkL_get {α : Type} {f : Int → α → α} {c : α → Int} : ∀ {xs : List α} {k : Int} {i : Nat} (h : i < xs.length) (h' : i < (mkL f c k xs).length), (mkL f c k xs)[i] = f (k + sumL c (xs.take i)) xs[i]
  | x :: r, k, 0, h, h' => by simp [mkL, sumL]
  | x :: r, k, i + 1, h, h' => by
    simp only [mkL, List.getElem_cons_succ, List.take_succ_cons, sumL]
    rw [mkL_get (xs := r) (by simpa using h), Int.add_assoc]
/-- marked up to a place -/
def mkAt {α : Type} (f : Int → α → α) (c : α → Int) (k : Int) (xs : List α) (i : Nat) : List α := (mkL f c k xs).take i ++ xs.drop i
section
variable {α : Type} {f : Int → α → α} {c : α → Int} {k : Int} {xs : List α} {i : Nat}
theorem mkAt_zero : mkAt f c k xs 0 = xs := by simp [mkAt]
theorem mkAt_full : mkAt f c k xs xs.length = mkL f c k xs := by
  unfold mkAt
  rw [List.drop_length, List.append_nil, List.take_of_length_le (by rw [mkL_len]; exact Nat.le_refl _)]
theorem mkAt_len : (mkAt f c k xs i).length = xs.length := by
  simp [mkAt, mkL_len]; omega
theorem mkAt_get (h : i < xs.length) (h' : i < (mkAt f c k xs i).length) : (mkAt f c k xs i)[i] = xs[i] := by
  have hl : ((mkL f c k xs).take i).length = i := by rw [List.length_take, mkL_len]; omega
  simp only [mkAt]
  rw [List.getElem_append_right (by omega)]
  simp [hl]
theorem mkAt_set (h : i < xs.length) : (mkAt f c k xs i).set i (f (k + sumL c (xs.take i)) xs[i]) = mkAt f c k xs (i + 1) := by
  have hl : ((mkL f c k xs).take i).length = i := by rw [List.length_take, mkL_len]; omega
  have h2 : i < (mkL f c k xs).length := by rw [mkL_len]; exact h
  unfold mkAt
  rw [List.take_succ_eq_append_getElem h2, mkL_get h, List.set_append, if_neg (by omega), hl, Nat.sub_self, List.append_assoc]
  congr 1
  rw [List.drop_eq_getElem_cons h]
  rfl
end
theorem sumL_one {α : Type} (xs : List α) : sumL (fun _ => 1) xs = xs.length := by
  induction xs with
  | nil => rfl
  | cons x r ih => simp only [sumL, ih, List.length_cons]; omega

def cntI (xs : List Int) : Int := xs.length
def cntRows (xs : List (List Int)) : Int := sumL cntI xs
def cntOp (x : Int × List Int) : Int := cntI x.2
def cntOp1 (x : Int × List Int) : Int := 1 + cntI x.2
def cntOps (xs : List (Int × List Int)) : Int := sumL cntOp1 xs
def cntRel (x : Int × List (List Int)) : Int := cntRows x.2
def cntRel1 (x : Int × List (List Int)) : Int := 1 + cntRows x.2
def cntRels (xs : List (Int × List (List Int))) : Int := sumL cntRel1 xs
def cntTpl (x : Int × List (Int × List (List Int))) : Int := cntRels x.2
def cntInst (x : Int × List (Int × List Int)) : Int := cntOps x.2
def cntFrm (x : Int × Int × List (Int × List Int)) : Int := cntOps x.2.2
theorem cntI_nn (xs : List Int) : 0 ≤ cntI xs := by unfold cntI; omega
theorem cntRows_nn (xs : List (List Int)) : 0 ≤ cntRows xs := sumL_nonneg cntI_nn xs
theorem cntOp1_nn (x : Int × List Int) : 0 ≤ cntOp1 x := by have := cntI_nn x.2; unfold cntOp1; omega
theorem cntOps_nn (xs : List (Int × List Int)) : 0 ≤ cntOps xs := sumL_nonneg cntOp1_nn xs
theorem cntRel1_nn (x : Int × List (List Int)) : 0 ≤ cntRel1 x := by have := cntRows_nn x.2; unfold cntRel1; omega
theorem cntRels_nn (xs : List (Int × List (List Int))) : 0 ≤ cntRels xs := sumL_nonneg cntRel1_nn xs
theorem sumL_mono {α : Type} {f g : α → Int} (h : ∀ x, f x ≤ g x) (xs : List α) : sumL f xs ≤ sumL g xs := by
  induction xs with
  | nil => exact Int.le_refl _
  | cons x r ih => have := h x; simp only [sumL]; omega
theorem sumL_add1 {α : Type} {f : α → Int} (xs : List α) : sumL (fun x => 1 + f x) xs = xs.length + sumL f xs := by
  induction xs with
  | nil => rfl
  | cons x r ih => simp only [sumL, ih, List.length_cons]; omega
theorem cntI_sz (xs : List Int) : cntI xs ≤ szInts xs := Int.le_refl _
theorem cntRows_sz (xs : List (List Int)) : cntRows xs ≤ szRows xs := by
  have : cntRows xs = sumL szInts xs := rfl
  unfold szRows szSl; omega
theorem cntOps_sz (xs : List (Int × List Int)) : cntOps xs ≤ szOps xs := by
  have : cntOps xs = xs.length + sumL (fun x => cntI x.2) xs := sumL_add1 (f := fun x : Int × List Int => cntI x.2) xs
  have h2 : sumL (fun x : Int × List Int => cntI x.2) xs = sumL szOp xs := rfl
  unfold szOps szSl; omega
theorem cntRels_sz (xs : List (Int × List (List Int))) : cntRels xs ≤ szRels xs := by
  have : cntRels xs = xs.length + sumL (fun x => cntRows x.2) xs := sumL_add1 (f := fun x : Int × List (List Int) => cntRows x.2) xs
  have h2 : sumL (fun x : Int × List (List Int) => cntRows x.2) xs ≤ sumL szRel xs := sumL_mono (fun x => cntRows_sz x.2) xs
  unfold szRels szSl; omega

def mkI (k : Int) (xs : List Int) : List Int := mkL (fun k _ => k) (fun _ => 1) k xs
def mkRows (k : Int) (xs : List (List Int)) : List (List Int) := mkL mkI cntI k xs
def mkOp1 (k : Int) (x : Int × List Int) : Int × List Int := (k, mkI (k + 1) x.2)
def mkOps (k : Int) (xs : List (Int × List Int)) : List (Int × List Int) := mkL mkOp1 cntOp1 k xs
def mkRel1 (k : Int) (x : Int × List (List Int)) : Int × List (List Int) := (k, mkRows (k + 1) x.2)
def mkRels (k : Int) (xs : List (Int × List (List Int))) : List (Int × List (List Int)) := mkL mkRel1 cntRel1 k xs
def mkOp (k : Int) (x : Int × List Int) : Int × List Int := (x.1, mkI k x.2)
def mkRel (k : Int) (x : Int × List (List Int)) : Int × List (List Int) := (x.1, mkRows k x.2)
def mkTpl (k : Int) (x : Int × List (Int × List (List Int))) : Int × List (Int × List (List Int)) := (x.1, mkRels k x.2)
def mkInst (k : Int) (x : Int × List (Int × List Int)) : Int × List (Int × List Int) := (x.1, mkOps k x.2)
def mkFrm (k : Int) (x : Int × Int × List (Int × List Int)) : Int × Int × List (Int × List Int) := (x.1, x.2.1, mkOps k x.2.2)
theorem cntI_len (xs : List Int) : sumL (fun _ => (1 : Int)) xs = cntI xs := sumL_one xs

/-! one element of a row -/
theorem nodup_flat {b n i : Nat} {fps : Nat → List Nat} (h : (b :: (List.range n).flatMap fps).Nodup) (hi : i < n) :
    (fps i).Nodup ∧ b ∉ fps i ∧ ∀ j, j < n → j ≠ i → ∀ k ∈ fps j, k ∉ fps i := by
  rw [List.nodup_cons] at h
  obtain ⟨h1, h2⟩ := h
  have h3 := List.pairwise_flatMap.1 h2
  refine ⟨h3.1 i (by simpa using hi), fun hb => h1 (List.mem_flatMap.2 ⟨i, by simpa using hi, hb⟩), fun j hj hne k hk hk' => ?_⟩
  have h4 := h3.2
  rw [List.pairwise_iff_getElem] at h4
  rcases Nat.lt_or_ge j i with hlt | hge
  · have := h4 j i (by simpa using hj) (by simpa using hi) hlt k (by simpa using hk) k (by simpa using hk')
    exact this rfl
  · have := h4 i j (by simpa using hi) (by simpa using hj) (by omega) k (by simpa using hk') k (by simpa using hk)
    exact this rfl

theorem rowRd.put {α : Type} {E : Ty α} {w w' : World} {b o : Nat} {xs : List α} {fps : Nat → List Nat} {i : Nat} {y : α} (h : rowRd E w b o xs fps) (_hi : i < xs.length)
    (hother : ∀ j, j < xs.length → j ≠ i → Same (fps j) w w' ∧ ∀ q, q < E.sz → w'.cell? ⟨b, o + j * E.sz + q, none⟩ = w.cell? ⟨b, o + j * E.sz + q, none⟩)
    (hthis : ∃ cs, E.rd w' cs y (fps i) ∧ ∀ j (hj : j < cs.length), w'.cell? ⟨b, o + i * E.sz + j, none⟩ = some cs[j]) : rowRd E w' b o (xs.set i y) fps := by
  intro j hj
  by_cases e : i = j
  · subst e
    simpa using hthis
  · have hj' : j < xs.length := by simpa using hj
    obtain ⟨cs, h1, h2⟩ := h j hj'
    obtain ⟨h3, h4⟩ := hother j hj' (fun e' => e e'.symm)
    refine ⟨cs, by rw [List.getElem_set_ne e]; exact E.same h1 h3, fun q hq => ?_⟩
    rw [h4 q (by rw [← E.len h1]; exact hq)]
    exact h2 q hq

theorem sl_open {α : Type} {E : Ty α} {w : World} {v : Value} {xs : List α} {fp : List Nat} (h : (Ty.slice E).rd w [v] xs fp) {i : Nat} (hi : i < xs.length) :
    ∃ b o cap fps, v = .slice (some ⟨b, o, none⟩) xs.length cap ∧ b < w.heap.size ∧ fp = b :: (List.range xs.length).flatMap fps ∧ rowRd E w b o xs fps ∧
      ∀ w' ys, rowRd E w' b o ys fps → ys.length = xs.length → b < w'.heap.size → (Ty.slice E).rd w' [v] ys fp := by
  obtain ⟨ad, cap, hv, h1, h2, h3⟩ := h
  obtain rfl : v = _ := by simpa using hv
  rcases h3 with h3 | ⟨h3, b, o, fps, rfl, hb, rfl, h4⟩
  · omega
  · refine ⟨b, o, cap, fps, rfl, hb, rfl, h4, fun w' ys hr hl hb' => ⟨some ⟨b, o, none⟩, cap, by rw [hl], by omega, by omega, .inr ⟨by omega, b, o, fps, rfl, hb', by rw [hl], hr⟩⟩⟩

/-- a number of a row: its cell, and the row behind a write -/
theorem ints_mark {w : World} {v : Value} {xs : List Int} {fp : List Nat} (h : intsT.rd w [v] xs fp) (_hn : fp.Nodup) (hu : Unf w fp) {i : Nat} (hi : i < xs.length) :
    ∃ b o cap, v = .slice (some ⟨b, o, none⟩) xs.length cap ∧ b < w.heap.size ∧ w.cell? ⟨b, o + i, none⟩ = some (.int .i64 xs[i]) ∧ w.frozen? ⟨b, o + i, none⟩ = false ∧
      ∀ n, I64 n → intsT.rd (w.setCell ⟨b, o + i, none⟩ (.int .i64 n)) [v] (xs.set i n) fp ∧ Unf (w.setCell ⟨b, o + i, none⟩ (.int .i64 n)) fp ∧ TchF fp w (w.setCell ⟨b, o + i, none⟩ (.int .i64 n)) := by
  obtain ⟨b, o, cap, fps, hv, hb, rfl, hr, hc⟩ := sl_open h hi
  have hcell : w.cell? ⟨b, o + i, none⟩ = some (.int .i64 xs[i]) := by
    obtain ⟨cs, ⟨rfl, _, _⟩, h2⟩ := hr i hi
    simpa [Ty.int] using h2 0 (by simp)
  refine ⟨b, o, cap, hv, hb, hcell, hu b (List.mem_cons_self ..) _, fun n hn => ⟨hc _ _ (hr.put hi (fun j hj hne => ⟨?_, fun q hq => ?_⟩) ⟨[.int .i64 n], ⟨rfl, hn, ?_⟩, fun j hj => ?_⟩) (by simp) (by simpa [World.setCell] using hb), fun k hk q => ?_, TchF.setCell (List.mem_cons_self ..) _ _ _⟩⟩
  · obtain ⟨cs, ⟨_, _, hf⟩, _⟩ := hr j hj
    rw [hf]; intro k hk; cases hk
  · refine World.cell?_setCell_other _ _ _ _ (fun e => ?_)
    have : q = 0 := by simpa [Ty.int] using hq
    simp [Ty.int] at e
    omega
  · obtain ⟨cs, ⟨_, _, hf⟩, _⟩ := hr i hi
    exact hf
  · obtain rfl : j = 0 := by simpa using hj
    simpa [Ty.int] using World.cell?_setCell_same _ _ (.int .i64 n) hcell
  · rw [World.frozen?_setCell]; exact hu k hk q

/-- a slice of a row of slices -/
theorem rows_mark {α : Type} {E : Ty α} {w : World} {v : Value} {xs : List (List α)} {fp : List Nat} (h : (Ty.slice (Ty.slice E)).rd w [v] xs fp) (hn : fp.Nodup) (hu : Unf w fp) {i : Nat} (hi : i < xs.length) :
    ∃ b o cap u f, v = .slice (some ⟨b, o, none⟩) xs.length cap ∧ b < w.heap.size ∧ w.cell? ⟨b, o + i, none⟩ = some u ∧ (Ty.slice E).rd w [u] xs[i] f ∧ f.Nodup ∧ Unf w f ∧
      ∀ w' y, TchF f w w' → (Ty.slice E).rd w' [u] y f → Unf w' f → (Ty.slice (Ty.slice E)).rd w' [v] (xs.set i y) fp ∧ Unf w' fp ∧ TchF fp w w' := by
  obtain ⟨b, o, cap, fps, hv, hb, rfl, hr, hc⟩ := sl_open h hi
  obtain ⟨n1, n2, n3⟩ := nodup_flat hn hi
  obtain ⟨cs, h1, h2⟩ := hr i hi
  obtain ⟨_, _, rfl, _⟩ := id h1
  have hcell := h2 0 (by simp)
  have hsub : ∀ k ∈ fps i, k ∈ b :: (List.range xs.length).flatMap fps := fun k hk => List.mem_cons_of_mem _ (List.mem_flatMap.2 ⟨i, by simpa using hi, hk⟩)
  refine ⟨b, o, cap, _, fps i, hv, hb, by simpa [Ty.slice] using hcell, h1, n1, fun k hk => hu k (hsub k hk), fun w' y ht hy hu' => ?_⟩
  have hbl : ∀ q, w'.cell? ⟨b, q, none⟩ = w.cell? ⟨b, q, none⟩ := fun q => ht.cell hb n2
  refine ⟨hc _ _ (hr.put hi (fun j hj hne => ⟨ht.same fun k hk => ⟨?_, n3 j hj hne k hk⟩, fun q _ => hbl _⟩) ⟨_, hy, fun j hj => ?_⟩) (by simp) (Nat.lt_of_lt_of_le hb ht.size), fun k hk q => ?_, ht.mono hsub⟩
  · obtain ⟨cs', h3, _⟩ := hr j hj
    exact (Ty.slice E).lt h3 k hk
  · rw [hbl]; exact h2 j hj
  · by_cases hk' : k ∈ fps i
    · exact hu' k hk' q
    · rw [ht.frozen ((Ty.slice (Ty.slice E)).lt h k hk) hk']; exact hu k hk q

/-- a struct of a row: its number is written first, then its slice -/
theorem pairs_mark {α : Type} {E : Ty α} {w : World} {v : Value} {xs : List (Int × List α)} {fp : List Nat} (h : (Ty.slice (Ty.cons (Ty.slice E))).rd w [v] xs fp) (hn : fp.Nodup) (hu : Unf w fp) {i : Nat} (hi : i < xs.length) :
    ∃ b o cap u f, v = .slice (some ⟨b, o, none⟩) xs.length cap ∧ b < w.heap.size ∧ w.cell? ⟨b, o + i * 2, none⟩ = some (.int .i64 xs[i].1) ∧ w.cell? ⟨b, o + i * 2 + 1, none⟩ = some u ∧ w.frozen? ⟨b, o + i * 2, none⟩ = false ∧
      ∀ n, I64 n → ∃ w1, w1 = w.setCell ⟨b, o + i * 2, none⟩ (.int .i64 n) ∧ w1.cell? ⟨b, o + i * 2 + 1, none⟩ = some u ∧ (Ty.slice E).rd w1 [u] xs[i].2 f ∧ f.Nodup ∧ Unf w1 f ∧ w1.heap.size = w.heap.size ∧
      ∀ w' y, TchF f w1 w' → (Ty.slice E).rd w' [u] y f → Unf w' f → (Ty.slice (Ty.cons (Ty.slice E))).rd w' [v] (xs.set i (n, y)) fp ∧ Unf w' fp ∧ TchF fp w w' := by
  obtain ⟨b, o, cap, fps, hv, hb, rfl, hr, hc⟩ := sl_open h hi
  obtain ⟨n1, n2, n3⟩ := nodup_flat hn hi
  obtain ⟨cs, ⟨cs', rfl, hI, h1⟩, h2⟩ := hr i hi
  obtain ⟨_, _, rfl, _⟩ := id h1
  have hcell0 := h2 0 (by simp)
  have hcell1 := h2 1 (by simp)
  simp [Ty.slice, Ty.cons] at hcell0 hcell1
  have hsub : ∀ k ∈ fps i, k ∈ b :: (List.range xs.length).flatMap fps := fun k hk => List.mem_cons_of_mem _ (List.mem_flatMap.2 ⟨i, by simpa using hi, hk⟩)
  refine ⟨b, o, cap, _, fps i, hv, hb, hcell0, hcell1, hu b (List.mem_cons_self ..) _, fun n hI' => ⟨_, rfl, ?_, ?_, n1, ?_, by simp [World.setCell], fun w' y ht hy hu' => ?_⟩⟩
  · rw [World.cell?_setCell_other _ _ _ _ (fun e => by simp at e)]; exact hcell1
  · exact (Ty.slice E).same h1 (same_set fun k hk e => n2 (by rw [e]; exact hk))
  · exact fun k hk q => by rw [World.frozen?_setCell]; exact hu k (hsub k hk) q
  have hsz : (w.setCell ⟨b, o + i * 2, none⟩ (.int .i64 n)).heap.size = w.heap.size := by simp [World.setCell]
  have hbl : ∀ q, w'.cell? ⟨b, q, none⟩ = (w.setCell ⟨b, o + i * 2, none⟩ (.int .i64 n)).cell? ⟨b, q, none⟩ := fun q => ht.cell (by rw [hsz]; exact hb) n2
  have hts : TchF (b :: (List.range xs.length).flatMap fps) w (w.setCell ⟨b, o + i * 2, none⟩ (.int .i64 n)) := TchF.setCell (List.mem_cons_self ..) _ _ _
  refine ⟨hc _ _ (hr.put hi (fun j hj hne => ⟨?_, fun q hq => ?_⟩) ⟨.int .i64 n :: _, ⟨_, rfl, hI', hy⟩, fun j hj => ?_⟩) (by simp) (Nat.lt_of_lt_of_le (by rw [hsz]; exact hb) ht.size), fun k hk q => ?_, hts.trans (ht.mono hsub)⟩
  · obtain ⟨cs', h3, _⟩ := hr j hj
    obtain ⟨m1, m2, m3⟩ := nodup_flat hn hj
    refine Same.trans (same_set fun k hk e => m2 (by rw [e]; exact hk)) (ht.same fun k hk => ⟨?_, n3 j hj hne k hk⟩)
    rw [hsz]
    exact (Ty.cons (Ty.slice E)).lt h3 k hk
  · rw [hbl]
    refine World.cell?_setCell_other _ _ _ _ (fun e => ?_)
    simp [Ty.slice, Ty.cons] at e hq
    omega
  · rw [hbl]
    rcases (show j = 0 ∨ j = 1 by simp at hj; omega) with rfl | rfl
    · simpa [Ty.slice, Ty.cons] using World.cell?_setCell_same _ _ (.int .i64 n) hcell0
    · rw [World.cell?_setCell_other _ _ _ _ (fun e => by simp [Ty.slice, Ty.cons] at e)]
      simpa [Ty.slice, Ty.cons] using hcell1
  · by_cases hk' : k ∈ fps i
    · exact hu' k hk' q
    · rw [ht.frozen (by rw [hsz]; exact (Ty.slice (Ty.cons (Ty.slice E))).lt h k hk) hk', World.frozen?_setCell]; exact hu k hk q

theorem rd_pair {α : Type} {E : Ty α} {w : World} {cs : List Value} {x : Int × List α} {fp : List Nat} (h : (Ty.cons (Ty.slice E)).rd w cs x fp) :
    ∃ u, cs = [.int .i64 x.1, u] ∧ (Ty.slice E).rd w [u] x.2 fp ∧ ∀ w' y, (Ty.slice E).rd w' [u] y fp → (Ty.cons (Ty.slice E)).rd w' [.int .i64 x.1, u] (x.1, y) fp := by
  obtain ⟨cs', rfl, hI, h1⟩ := h
  obtain ⟨_, _, rfl, _⟩ := id h1
  exact ⟨_, rfl, h1, fun w' y hy => ⟨_, rfl, hI, hy⟩⟩
theorem rd_trip {α : Type} {E : Ty α} {w : World} {cs : List Value} {x : Int × Int × List α} {fp : List Nat} (h : (Ty.cons (Ty.cons (Ty.slice E))).rd w cs x fp) :
    ∃ u, cs = [.int .i64 x.1, .int .i64 x.2.1, u] ∧ (Ty.slice E).rd w [u] x.2.2 fp ∧ ∀ w' y, (Ty.slice E).rd w' [u] y fp → (Ty.cons (Ty.cons (Ty.slice E))).rd w' [.int .i64 x.1, .int .i64 x.2.1, u] (x.1, x.2.1, y) fp := by
  obtain ⟨cs', rfl, hI, h1⟩ := h
  obtain ⟨u, rfl, h2, h3⟩ := rd_pair h1
  exact ⟨u, rfl, h2, fun w' y hy => ⟨_, rfl, hI, h3 _ _ hy⟩⟩

/-! memory between two numbers -/
/-- reads so in blocks from lo up to hi, each once, none frozen -/
def Ty.Fx {α : Type} (E : Ty α) (lo hi : Nat) (w : World) (cs : List Value) (x : α) : Prop := ∃ fp, E.rd w cs x fp ∧ fp.Nodup ∧ (∀ b ∈ fp, lo ≤ b ∧ b < hi) ∧ Unf w fp
theorem Ty.Fx.rd {α : Type} {E : Ty α} {lo hi : Nat} {w : World} {cs : List Value} {x : α} (h : E.Fx lo hi w cs x) : E.Rd w cs x := let ⟨fp, h, _⟩ := h; ⟨fp, h⟩
theorem Ty.Fr.fx {α : Type} {E : Ty α} {lo : Nat} {w : World} {cs : List Value} {x : α} (h : E.Fr lo w cs x) : E.Fx lo w.heap.size w cs x :=
  let ⟨fp, h1, h2, h3, h4⟩ := h; ⟨fp, h1, h2, fun b hb => ⟨h3 b hb, E.lt h1 b hb⟩, h4⟩
theorem Ty.Fx.below {α : Type} {E : Ty α} {lo hi : Nat} {w w' : World} {cs : List Value} {x : α} (h : E.Fx lo hi w cs x) (hb : Below w.heap.size w w') : E.Fx lo hi w' cs x :=
  let ⟨fp, h1, h2, h3, h4⟩ := h
  have hs : Same fp w w' := Same.below hb (E.lt h1)
  ⟨fp, E.same h1 hs, h2, h3, h4.same hs⟩
/-- all old blocks but those from lo up to hi are as before -/
structure Tch (lo hi : Nat) (w w' : World) : Prop where
  os : w'.os = w.os
  tape : w'.tape = w.tape
  output : w'.output = w.output
  size : w.heap.size ≤ w'.heap.size
  block : ∀ k, k < w.heap.size → (k < lo ∨ hi ≤ k) → w'.heap[k]? = w.heap[k]?
theorem TchF.tch {fp : List Nat} {lo hi : Nat} {w w' : World} (h : TchF fp w w') (hf : ∀ b ∈ fp, lo ≤ b ∧ b < hi) : Tch lo hi w w' :=
  ⟨h.os, h.tape, h.output, h.size, fun k hk hn => h.block k hk fun hm => by have := hf k hm; omega⟩
theorem Tch.cell {lo hi : Nat} {w w' : World} (h : Tch lo hi w w') {b o : Nat} (hb : b < w.heap.size) (hn : b < lo ∨ hi ≤ b) : w'.cell? ⟨b, o, none⟩ = w.cell? ⟨b, o, none⟩ := World.cell?_of_block (w := w) (h.block b hb hn)
theorem Ty.Fx.tch {α : Type} {E : Ty α} {lo hi lo' hi' : Nat} {w w' : World} {cs : List Value} {x : α} (h : E.Fx lo hi w cs x) (ht : Tch lo' hi' w w') (hd : hi ≤ lo' ∨ hi' ≤ lo) : E.Fx lo hi w' cs x :=
  let ⟨fp, h1, h2, h3, h4⟩ := h
  have hs : Same fp w w' := fun k hk => ht.block k (E.lt h1 k hk) (by have := h3 k hk; omega)
  ⟨fp, E.same h1 hs, h2, h3, h4.same hs⟩
def frTA {α : Type} (E : Ty α) (base : Nat) (x : α) (n : Value) : VP := fun v W => ∃ cs : List Value, v = .tuple #[.agg cs.toArray, n] ∧ E.Fr base W cs x
def frTS {α : Type} (E : Ty α) (base : Nat) (x : α) (n : Value) : VP := fun v W => ∃ u : Value, v = .tuple #[u, n] ∧ E.Fr base W [u] x
theorem st_frTA {α : Type} {E : Ty α} {base : Nat} {x : α} {n : Value} : Stab (frTA E base x n) := fun _ _ _ ⟨cs, h1, h2⟩ hb => ⟨cs, h1, h2.below hb⟩
theorem st_frTS {α : Type} {E : Ty α} {base : Nat} {x : α} {n : Value} : Stab (frTS E base x n) := fun _ _ _ ⟨cs, h1, h2⟩ hb => ⟨cs, h1, h2.below hb⟩
theorem below_tch {B lo hi : Nat} {a w w' : World} (h : Below B a w) (ht : Tch lo hi w w') (hB : B ≤ lo) (hs : B ≤ w.heap.size) : Below B a w' :=
  ⟨ht.os.trans h.os, ht.tape.trans h.tape, ht.output.trans h.output, Nat.le_trans h.size ht.size, fun k hk => (ht.block k (by omega) (by omega)).trans (h.block k hk)⟩
/-- an append at a step of a region that draws its order -/
theorem step_push {P : Program} {K : Act → World → Prop} {Ee : Prop} {α : Type} {E : Ty α} (w : World) {ops : Array Oper} {o : Oper} {a : Act} {Q : Exit → Act → World → Prop} (hgd : o.guard = none) (s x : Operand) (t e : TypeId) {bytes : Nat}
    (ho : o.op = .call { callee := .builtin .append, args := #[s, x], argTypes := #[t, t] }) (hT : ElT P t e E.sz bytes)
    {base top : Nat} {v : Value} {ys : List α} (hs : a.eval s = v) (hB : Bl E e base top w v ys)
    {ad : Addr} {c : Nat} {cs : List Value} {y : α} (hx : a.eval x = .slice (some ad) 1 c) (hnews : ∀ j u, cs[j]? = some u → w.cell? (ad.add j) = some u) (hy : E.Fr top w cs y)
    (hlen : ys.length ≤ 1000000000) (hby : bytes ≤ 100000) (hbt : base ≤ top) (htop : top ≤ w.heap.size)
    (h : ∀ v' w', Bl E e base w'.heap.size w' v' (ys ++ [y]) → w.grownBy w' v.ownBlock → (v'.ownBlock = v.ownBlock ∨ v'.ownBlock = some w.heap.size) → K (a.put o.dst v') w') : if Region.wanted o (yielded ops a.tmps) = true then Oper.wp P o a w K Q else Ee := by
  rw [if_pos (by simp [Region.wanted, hgd])]
  obtain ⟨L, fps, g1, g2, g3, g4, g5, g6⟩ := hB
  obtain ⟨fp, k1, k2, k3, k4⟩ := hy
  obtain ⟨i, z, ht, hi, hz, hsz, hbt', hzs, hp⟩ := id hT
  have hcl := E.len k1
  have hlen' : (ys.length + 1) * bytes ≤ 140737488355328 := Nat.le_trans (Nat.mul_le_mul (show ys.length + 1 ≤ 1000000001 by omega) hby) (by decide)
  have hbase : base ≤ w.heap.size := Nat.le_trans hbt htop
  obtain ⟨v', w', hr, h2, h3, h4⟩ := run_append_own (P := P) w base t o.type e i z E.sz bytes ht hi hz hsz hbt' hzs hp v ys.length L g1 ad 1 c cs (by omega) hnews (E.one k1) (by unfold maxLen; omega) hlen' hbase
  have hblk := run_push_block w base t o.type e hT v ys.length L g1 ad 1 c cs (by omega) hnews (E.one k1) (by unfold maxLen; omega) hlen' (by omega) v' w' hr
  have hS : ∀ k, v.ownBlock ≠ some k → k < w.heap.size → w'.heap[k]? = w.heap[k]? := fun k hk hlt => h3.block k hlt (fun he => hk he.symm)
  have hlt1 : ∀ b ∈ flat fps ys.length, b < w.heap.size := fun b hb => Nat.lt_of_lt_of_le (g4 b hb).2.1 htop
  have hlt2 : ∀ b ∈ fp, b < w.heap.size := E.lt k1
  have hS1 : Same (flat fps ys.length) w w' := fun k hk => hS k (g4 k hk).2.2 (hlt1 k hk)
  have hne : ∀ b ∈ fp, v.ownBlock ≠ some b := fun b hb he => by have := g5 b he; have := k3 b hb; omega
  have hS2 : Same fp w w' := fun k hk => hS k (hne k hk) (hlt2 k hk)
  have hBl : Bl E e base w'.heap.size w' v' (ys ++ [y]) := by
    refine ⟨L ++ cs, fun i => if i = ys.length then fp else fps i, by simpa using h2, el_add (fun i hi => ?_) g1.1 (E.same k1 hS2), ?_, ?_, ?_, ?_⟩
    · obtain ⟨cs', h7, h8⟩ := g2 i hi
      exact ⟨cs', E.same h7 (fun k hk => hS1 k (List.mem_flatMap.2 ⟨i, by simpa using hi, hk⟩)), h8⟩
    · rw [List.length_append, List.length_singleton, flat_add]
      exact List.nodup_append.2 ⟨g3, k2, fun a ha b hb he => by subst he; have := (g4 a ha).2.1; have := k3 a hb; omega⟩
    · rw [List.length_append, List.length_singleton, flat_add]
      intro b hb
      have hsz' := h3.size
      rcases List.mem_append.1 hb with hb | hb
      · refine ⟨(g4 b hb).1, by have := hlt1 b hb; omega, ?_⟩
        rcases hblk with e1 | e1 <;> rw [e1]
        · exact (g4 b hb).2.2
        · intro he; have := hlt1 b hb; simp at he; omega
      · refine ⟨by have := k3 b hb; omega, by have := hlt2 b hb; omega, ?_⟩
        rcases hblk with e1 | e1 <;> rw [e1]
        · exact hne b hb
        · intro he; have := hlt2 b hb; simp at he; omega
    · intro g hg
      exact (h2.lt g hg).2
    · rw [List.length_append, List.length_singleton, flat_add]
      intro b hb
      rcases List.mem_append.1 hb with hb | hb
      · exact g6.same hS1 b hb
      · exact k4.same hS2 b hb
  unfold Oper.wp execOp
  simp only [ho, resolve, invoke, builtin, Sem.run_bind, Sem.run_pure, Result.andThen_ok, List.map_toArray, List.map_cons, List.map_nil, hs, hx, hr]
  exact h v' w' hBl h3 hblk
end Go.Proofs.Ytepebfpgmnidnaa
