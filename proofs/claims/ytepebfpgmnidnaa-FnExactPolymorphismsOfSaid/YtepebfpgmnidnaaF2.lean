/-
  Plain mathematics: the lists of tuples that a finder of operations looks at; which are due at each place; whether they go.
-/
import Derived.Test.YtepebfpgmnidnaaF1
import Derived.Test.YtepebfpgmnidnaaK29
import Derived.Test.YtepebfpgmnidnaaS2
namespace Go.Proofs.Ytepebfpgmnidnaa
open Go.RowKit Go.Sort
abbrev Tpl := Int × List (Int × List (List Int))
/-- the places of the values of a list of tuples -/
def cellsL (s : Int) (ar : Nat) (r : Int × List (List Int)) (i : Int) : List Int := (List.range r.1.toNat).map fun p => idxL s 0 (colL (picks r.2 ar i) p)
theorem cells_len {s : Int} {ar : Nat} {r : Int × List (List Int)} {i : Int} : (cellsL s ar r i).length = r.1.toNat := by simp [cellsL]
/-- the first j lists of a relation -/
def looksR (s : Int) (ar : Nat) (k : Nat) (r : Int × List (List Int)) (j : Nat) : List (Int × List Int) := (List.range j).map fun i : Nat => ((k : Int), cellsL s ar r i)
theorem looksR_zero {s : Int} {ar k : Nat} {r : Int × List (List Int)} : looksR s ar k r 0 = [] := rfl
theorem looksR_succ {s : Int} {ar k : Nat} {r : Int × List (List Int)} {j : Nat} : looksR s ar k r (j + 1) = looksR s ar k r j ++ [((k : Int), cellsL s ar r j)] := by simp [looksR, List.range_succ]
theorem looksR_len {s : Int} {ar k : Nat} {r : Int × List (List Int)} {j : Nat} : (looksR s ar k r j).length = j := by simp [looksR]
def powN (n ar : Nat) : Nat := n ^ ar
theorem powN_cast {n ar : Nat} : ((powN n ar : Nat) : Int) = (n : Int) ^ ar := by unfold powN; exact Int.natCast_pow n ar
/-- those of the first k relations -/
def looksT (t : Tpl) (ar : Nat) (k : Nat) : List (Int × List Int) := (List.range k).flatMap fun q => looksR t.1 ar q (relAt t (q : Int)) (powN (relAt t (q : Int)).2.length ar)
theorem looksT_zero {t : Tpl} {ar : Nat} : looksT t ar 0 = [] := rfl
theorem looksT_succ {t : Tpl} {ar k : Nat} : looksT t ar (k + 1) = looksT t ar k ++ looksR t.1 ar k (relAt t (k : Int)) (powN (relAt t (k : Int)).2.length ar) := by simp [looksT, List.range_succ]
def looksA (t : Tpl) (ar : Nat) : List (Int × List Int) := looksT t ar t.2.length
/-- those that are due at a place -/
def dueF (ats : List (Int × List Int)) (v : Nat) : List (Int × List Int) := ats.filter fun a => topI a.2 == (v : Int)
def duesF (ats : List (Int × List Int)) (n : Nat) : List (List (Int × List Int)) := (List.range n).map (dueF ats)
theorem duesF_len {ats : List (Int × List Int)} {n : Nat} : (duesF ats n).length = n := by simp [duesF]
theorem duesF_get {ats : List (Int × List Int)} {n k : Nat} (h : k < (duesF ats n).length) : (duesF ats n)[k] = dueF ats k := by simp [duesF]
theorem dueF_nil {v : Nat} : dueF [] v = [] := rfl
theorem dueF_yes {ats : List (Int × List Int)} {a : Int × List Int} {v : Nat} (h : topI a.2 = (v : Int)) : dueF (ats ++ [a]) v = dueF ats v ++ [a] := by
  unfold dueF
  rw [List.filter_append]
  simp [h]
theorem dueF_no {ats : List (Int × List Int)} {a : Int × List Int} {v : Nat} (h : topI a.2 ≠ (v : Int)) : dueF (ats ++ [a]) v = dueF ats v := by
  unfold dueF
  rw [List.filter_append]
  simp [h]
/-- does what is due go? -/
noncomputable def goesF (t : Tpl) (due : List (List (Int × List Int))) (vals : List Int) : Bool := !anyB (fun a => !tb (holdsC t vals a)) (due.getD (vals.length - 1) [])
theorem goesF_at {t : Tpl} {due : List (List (Int × List Int))} {vals : List Int} {k : Nat} (h : vals.length = k + 1) (hk : k < due.length) : goesF t due vals = !anyB (fun a => !tb (holdsC t vals a)) due[k] := by
  unfold goesF
  rw [h, Nat.add_sub_cancel, List.getD_eq_getElem?_getD, List.getElem?_eq_getElem hk]
  rfl
theorem noneB_any {α : Type} {p : α → Bool} {xs : List α} (h : noneB p xs) : anyB p xs = false := by
  unfold anyB
  rw [List.any_eq_false]
  intro x hx
  rw [h x hx]
  decide
theorem any_at {α : Type} {p : α → Bool} {xs : List α} {k : Nat} (h : k < xs.length) (hp : p xs[k] = true) : anyB p xs = true := by
  unfold anyB
  rw [List.any_eq_true]
  exact ⟨_, List.getElem_mem h, hp⟩
theorem atL_at {l ps : List Int} {k j : Nat} (hk : k < ps.length) (hj : ps[k] = (j : Int)) (hl : j < l.length) : (atL l ps)[k]'(by rw [atL_len]; exact hk) = l[j] := by
  simp [atL, hj, hl]
/-- a list is right: of a relation, with so many places as its tuples have -/
def lookOk (t : Tpl) (N : Nat) (a : Int × List Int) : Prop := ∃ k : Nat, a.1 = (k : Int) ∧ ∃ h : k < t.2.length, a.2.length = (t.2[k]).1.toNat ∧ ∀ p ∈ a.2, 0 ≤ p ∧ p < (N : Int)
def ldueOk (t : Tpl) (due : List (List (Int × List Int))) : Prop := ∀ k (h : k < due.length), ∀ a ∈ due[k], lookOk t due.length a ∧ ∀ p ∈ a.2, 0 ≤ p ∧ p < (k : Int) + 1
theorem duesF_ok {t : Tpl} {n : Nat} {ats : List (Int × List Int)} (h : ∀ a ∈ ats, lookOk t n a) : ldueOk t (duesF ats n) := fun k hk a ha => by
  rw [duesF_get hk] at ha
  rw [duesF_len]
  obtain ⟨ha, ht⟩ := List.mem_filter.1 ha
  have h1 := h a ha
  refine ⟨h1, fun p hp => ?_⟩
  have h2 := topI_ge hp
  obtain ⟨_, _, _, _, h4⟩ := h1
  have h3 := h4 p hp
  have : topI a.2 = (k : Int) := by simpa using ht
  omega
theorem cells_in {s : Int} {ar N : Nat} {r : Int × List (List Int)} {i : Int} (hs : 1 ≤ s) (hr : relOk s r) (h0 : 0 < r.2.length) (hN : s ^ ar = N) : ∀ p ∈ cellsL s ar r i, 0 ≤ p ∧ p < (N : Int) := fun p hp => by
  obtain ⟨q, hq, rfl⟩ := List.mem_map.1 hp
  have hq' : q < r.1.toNat := by simpa using hq
  have htu : tupsOk s (ar : Int) r.1.toNat (picks r.2 ar i) := by
    refine ⟨by rw [picks_len], fun u hu => ?_⟩
    obtain ⟨k, hk, rfl⟩ := List.mem_map.1 hu
    have hk2 := dig_mem (n := (r.2.length : Int)) (by omega) hk
    have hkl : k.toNat < r.2.length := by omega
    rw [List.getD_eq_getElem?_getD, List.getElem?_eq_getElem hkl]
    obtain ⟨h1, h2⟩ := (hr.2.2 k.toNat hkl).1
    have := hr.2.1
    exact ⟨by show (r.2[k.toNat]).length = r.1.toNat; omega, h2⟩
  have h1 := colL_in htu hq'
  have h2 := idx_lt hs (xs := colL (picks r.2 ar i) q) (m := ar) (by rw [colL_len, picks_len]) h1
  omega
theorem look_ok {t : Tpl} {ar N k : Nat} (hT : tplOk t) (hN : t.1 ^ ar = N) (hk : k < t.2.length) (h0 : 0 < (t.2[k]).2.length) (i : Int) : lookOk t N ((k : Int), cellsL t.1 ar t.2[k] i) := by
  have hs := hT.1
  unfold sizeOk at hs
  exact ⟨k, rfl, hk, by rw [cells_len], cells_in (by omega) (hT.2.2 _ (List.getElem_mem hk)) h0 hN⟩
theorem looksA_ok {t : Tpl} {ar N : Nat} (hT : tplOk t) (hN : t.1 ^ ar = N) (har : 1 ≤ ar) : ∀ k, k ≤ t.2.length → ∀ a ∈ looksT t ar k, lookOk t N a
  | 0, _, a, ha => by simp [looksT] at ha
  | k + 1, hk, a, ha => by
    rw [looksT_succ] at ha
    rcases List.mem_append.1 ha with ha | ha
    · exact looksA_ok hT hN har k (by omega) a ha
    · rw [relAt_nat (show k < t.2.length by omega)] at ha
      obtain ⟨i, hi, rfl⟩ := List.mem_map.1 ha
      refine look_ok hT hN (by omega) ?_ _
      rcases Nat.eq_zero_or_pos (t.2[k]).2.length with h | h
      · rw [h] at hi
        unfold powN at hi
        rw [Nat.zero_pow (by omega)] at hi
        simp at hi
      · exact h
/-- how many lists there are; too many? -/
def manyF (t : Tpl) (ar : Nat) : Int := sumL (fun r : Int × List (List Int) => (r.2.length : Int) ^ ar) t.2
def limF (t : Tpl) (ar : Nat) : Bool := decide (4000 < manyF t ar)
theorem pow0 {n ar : Nat} : (0 : Int) ≤ (n : Int) ^ ar := pow_nn (by omega) ar
theorem sumL_min {α : Type} {f : α → Int} {c : Int} (hc : 0 ≤ c) (hf : ∀ x, 0 ≤ f x) : ∀ xs : List α, (sumL (fun x => min (c + 1) (f x)) xs ≤ sumL f xs) ∧ (sumL (fun x => min (c + 1) (f x)) xs ≤ c → sumL f xs = sumL (fun x => min (c + 1) (f x)) xs) ∧ 0 ≤ sumL (fun x => min (c + 1) (f x)) xs
  | [] => by simp [sumL]
  | x :: r => by
    obtain ⟨h1, h2, h3⟩ := sumL_min hc hf r
    have := hf x
    simp only [sumL]
    refine ⟨by omega, fun h => ?_, by omega⟩
    have := h2 (by omega)
    omega
theorem lim_min {t : Tpl} {ar : Nat} : decide (4000 < sumL (fun r : Int × List (List Int) => min 4001 ((r.2.length : Int) ^ ar)) t.2) = limF t ar := by
  unfold limF manyF
  obtain ⟨h1, h2, h3⟩ := sumL_min (f := fun r : Int × List (List Int) => (r.2.length : Int) ^ ar) (c := 4000) (by omega) (fun r => pow0) t.2
  rw [show (4000 : Int) + 1 = 4001 from rfl] at h1 h2 h3
  refine decide_eq_decide.2 ⟨fun h => by omega, fun h => ?_⟩
  rcases Int.lt_or_le 4000 (sumL (fun r : Int × List (List Int) => min 4001 ((r.2.length : Int) ^ ar)) t.2) with h' | h'
  · exact h'
  · have := h2 h'; omega
theorem looksT_len {t : Tpl} {ar : Nat} : ∀ k, k ≤ t.2.length → ((looksT t ar k).length : Int) = sumL (fun r : Int × List (List Int) => (r.2.length : Int) ^ ar) (t.2.take k)
  | 0, _ => by simp [looksT, sumL]
  | k + 1, h => by
    rw [looksT_succ, List.length_append, looksR_len, sumL_succ _ (show k < t.2.length by omega), relAt_nat (show k < t.2.length by omega), ← looksT_len k (by omega), ← powN_cast]
    omega
theorem looksA_len {t : Tpl} {ar : Nat} (h : limF t ar = false) : (looksA t ar).length ≤ 4000 := by
  have h1 := looksT_len (t := t) (ar := ar) _ (Nat.le_refl _)
  rw [List.take_length] at h1
  have h2 := of_decide_eq_false h
  unfold manyF at h2
  unfold looksA
  omega
/-- a bound on the lists so far -/
theorem looksT_le {t : Tpl} {ar k : Nat} (h : limF t ar = false) (hk : k ≤ t.2.length) : (looksT t ar k).length ≤ 4000 := by
  have h1 := looksT_len (t := t) (ar := ar) k hk
  have h2 := of_decide_eq_false h
  have h3 := sumL_take_le (f := fun r : Int × List (List Int) => (r.2.length : Int) ^ ar) (fun r => pow0) t.2 k
  unfold manyF at h2
  omega
theorem looksT_le' {t : Tpl} {ar k : Nat} (h : limF t ar = false) (hk : k < t.2.length) : (looksT t ar k).length + powN (t.2[k]).2.length ar ≤ 4000 := by
  have h1 := looksT_le h (show k + 1 ≤ t.2.length by omega)
  rw [looksT_succ, List.length_append, looksR_len, relAt_nat hk] at h1
  exact h1
/-- the truth values of a template's relations -/
def insF (t : Tpl) : List (List Bool) := t.2.map fun r => seenL t.1 (t.1 ^ r.1.toNat).toNat r.2
theorem insF_len {t : Tpl} : (insF t).length = t.2.length := by simp [insF]
theorem insF_get {t : Tpl} {k : Nat} (h : k < t.2.length) (h' : k < (insF t).length) : (insF t)[k] = seenL t.1 (t.1 ^ (t.2[k]).1.toNat).toNat (t.2[k]).2 := by simp [insF]
/-- the places of an operation's table -/
theorem placesN {s : Int} {ar : Int} (hs : 1 ≤ s ∧ s ≤ 4) (har : 1 ≤ ar ∧ ar ≤ 3) : ∃ N : Nat, s ^ ar.toNat = N ∧ 1 ≤ N ∧ N ≤ 64 := by
  obtain ⟨a, ha⟩ : ∃ a : Nat, ar = a := ⟨ar.toNat, by omega⟩
  obtain ⟨q, hq⟩ : ∃ q : Nat, s = q := ⟨s.toNat, by omega⟩
  subst ha; subst hq
  rw [Int.toNat_natCast]
  refine ⟨q ^ a, (Int.natCast_pow q a).symm, Nat.one_le_pow _ _ (by omega), ?_⟩
  rcases (show a = 1 ∨ a = 2 ∨ a = 3 by omega) with rfl | rfl | rfl <;> rcases (show q = 1 ∨ q = 2 ∨ q = 3 ∨ q = 4 by omega) with rfl | rfl | rfl | rfl <;> decide
end Go.Proofs.Ytepebfpgmnidnaa
